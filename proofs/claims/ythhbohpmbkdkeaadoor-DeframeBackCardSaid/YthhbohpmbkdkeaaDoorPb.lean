/- Frames with junk between, fed to a deframer: the plain law. No program. -/
import Derived.Test.YthhbohpmbkdkeaaDoorPl
namespace Go.Proofs.YthhbohpmbkdkeaaDoor

/-- outside a frame each byte that is not the first sign is junk -/
theorem feed_junk : ∀ (bs : List Int) (s : St), s.inn = false → (∀ c ∈ bs, c ≠ 11) → s.feed bs = { s with junk := s.junk + bs.length }
  | [], s, _, _ => by simp [St.feed]
  | c :: l, s, hi, h => by
    have hc := h c (List.mem_cons_self ..)
    have e : s.step c = { s with junk := s.junk + 1 } := by simp [St.step, hi, hc]
    show (s.step c).feed l = _
    rw [e, feed_junk l { s with junk := s.junk + 1 } hi (fun x hx => h x (List.mem_cons_of_mem _ hx))]
    simp only [List.length_cons, St.mk.injEq, true_and, and_true]
    omega

theorem good_none11 {bs : List Int} (h : goodL bs = true) : ∀ c ∈ bs, c ≠ 11 := by
  intro c hc
  obtain ⟨i, hi⟩ := List.getElem?_of_mem hc
  exact (good_iff.1 h i c hi).1

/-- the deframer lies outside again, one frame more was too long, and some bytes more were junk -/
def Overrun (s s' : St) : Prop := ∃ e : Int, 0 ≤ e ∧ s' = { s with inn := false, fin := false, now := [], over := s.over + 1, junk := s.junk + e }

theorem overrun_rest {s : St} {x : List Int} (l : List Int) (hm : s.most < (s.now ++ x).length) (hl : ∀ c ∈ l, c ≠ 11) (s0 : St) (hs : s = s0 ∨ s = { s0 with fin := false }) : Overrun s0 ((s.lay x).feed l) := by
  have e : s.lay x = St.outside { s with now := s.now ++ x, over := s.over + 1 } := by rw [St.lay, if_pos hm]
  rw [e, feed_junk l _ rfl hl]
  refine ⟨l.length, by omega, ?_⟩
  rcases hs with rfl | rfl <;> rfl

/-- bytes that are too many -/
theorem feed_over : ∀ (bs : List Int) (s : St), s.inn = true → s.now.length ≤ s.most →
    (s.fin = false → goodL bs = true → s.most < s.now.length + bs.length → Overrun s (s.feed bs)) ∧
    (s.fin = true → goodL (28 :: bs) = true → s.most < s.now.length + 1 + bs.length → Overrun s (s.feed bs))
  | [], s, hi, hn => by
    refine ⟨fun _ _ h => by simp at h; omega, fun _ h _ => ?_⟩
    simp [goodL] at h
  | c :: l, s, hi, hn => by
    constructor
    · intro hf hg hm
      obtain ⟨h11, hl⟩ := goodL_cons hg
      simp only [List.length_cons] at hm
      show Overrun s ((s.step c).feed l)
      by_cases h28 : c = 28
      · subst h28
        have e : s.step 28 = { s with fin := true } := by simp [St.step, hi, hf]
        rw [e]
        obtain ⟨x, hx, he⟩ := (feed_over l { s with fin := true } hi hn).2 rfl hg (by simp; omega)
        exact ⟨x, hx, by rw [he]⟩
      · have e1 : s.step c = s.lay [c] := by simp [St.step, hi, hf, h11, h28]
        rw [e1]
        by_cases hfit : s.now.length + 1 ≤ s.most
        · rw [lay_fits (by simp; omega)]
          obtain ⟨x, hx, he⟩ := (feed_over l { s with now := s.now ++ [c] } hi (by simp; omega)).1 hf hl (by simp; omega)
          exact ⟨x, hx, by rw [he]⟩
        · exact overrun_rest l (by simp; omega) (good_none11 hl) s (.inl rfl)
    · intro hf hg hm
      obtain ⟨_, hg2⟩ := goodL_cons hg
      obtain ⟨h11, hl⟩ := goodL_cons hg2
      have h13 : c ≠ 13 := by
        obtain ⟨d, hd, hne⟩ := (good_iff.1 hg 0 28 rfl).2 rfl
        simp at hd
        subst hd
        exact hne
      simp only [List.length_cons] at hm
      show Overrun s ((s.step c).feed l)
      by_cases h28 : c = 28
      · subst h28
        have e1 : s.step 28 = s.lay [28] := by simp [St.step, hi, hf]
        rw [e1]
        by_cases hfit : s.now.length + 1 ≤ s.most
        · rw [lay_fits (by simp; omega)]
          obtain ⟨x, hx, he⟩ := (feed_over l { s with now := s.now ++ [28] } hi (by simp; omega)).2 hf hg2 (by simp; omega)
          exact ⟨x, hx, by rw [he]⟩
        · exact overrun_rest l (by simp; omega) (good_none11 hl) s (.inl rfl)
      · have e1 : s.step c = St.lay { s with fin := false } [28, c] := by simp [St.step, hi, hf, h11, h13, h28]
        rw [e1]
        by_cases hfit : s.now.length + 2 ≤ s.most
        · rw [lay_fits (by simp; omega)]
          obtain ⟨x, hx, he⟩ := (feed_over l { s with fin := false, now := s.now ++ [28, c] } hi (by simp; omega)).1 rfl hl (by simp; omega)
          exact ⟨x, hx, by rw [he]⟩
        · exact overrun_rest l (by simp; omega) (good_none11 hl) s (.inr rfl)

/-- what a deframer holds behind so many bytes: rows found, frames too long, junk -/
def Sofar (m : Nat) (all : List Int) (F : List (List Int)) (ov ns : Int) : Prop :=
  ∃ jk : Int, (St.fresh m).feed all = ⟨m, false, false, [], F, jk, ov, 0⟩ ∧ 0 ≤ jk ∧ 0 ≤ ov ∧ (ov = 0 → jk = ns)

theorem Sofar.start (m : Nat) : Sofar m [] [] 0 0 := ⟨0, rfl, Int.le_refl _, Int.le_refl _, fun _ => rfl⟩

theorem feed_append (s : St) (xs ys : List Int) : s.feed (xs ++ ys) = (s.feed xs).feed ys := by simp [St.feed]

/-- one frame more, with junk ahead of it -/
theorem Sofar.step {m : Nat} {all : List Int} {F : List (List Int)} {ov ns : Int} (h : Sofar m all F ov ns) {N bs : List Int} (hN : ∀ c ∈ N, c ≠ 11) (hg : goodL bs = true) :
    (bs.length ≤ m → Sofar m (all ++ N ++ wrapL bs) (F ++ [bs]) ov (ns + N.length)) ∧ (m < bs.length → Sofar m (all ++ N ++ wrapL bs) F (ov + 1) (ns + N.length)) := by
  obtain ⟨jk, h1, h2, h3, h4⟩ := h
  have e1 : (St.fresh m).feed (all ++ N ++ wrapL bs) = ((⟨m, false, false, [], F, jk + N.length, ov, 0⟩ : St)).feed (wrapL bs) := by
    rw [feed_append, feed_append, h1, feed_junk N _ rfl hN]
  have e2 : ((⟨m, false, false, [], F, jk + N.length, ov, 0⟩ : St)).feed (wrapL bs) = ((((⟨m, true, false, [], F, jk + N.length, ov, 0⟩ : St)).feed bs).step 28).step 13 := by
    simp [wrapL, St.feed, St.step, St.begin]
  constructor
  · intro hm
    have e3 := (feed_good bs (⟨m, true, false, [], F, jk + N.length, ov, 0⟩ : St) rfl).1 rfl hg (by simpa using hm)
    refine ⟨jk + N.length, ?_, by omega, h3, fun e => by have := h4 e; omega⟩
    rw [e1, e2, e3]
    simp [St.step, St.outside]
  · intro hm
    obtain ⟨e, he, e3⟩ := (feed_over bs (⟨m, true, false, [], F, jk + N.length, ov, 0⟩ : St) rfl (Nat.zero_le _)).1 rfl hg (by simpa using hm)
    refine ⟨jk + N.length + e + 1 + 1, ?_, by omega, by omega, fun e => by omega⟩
    rw [e1, e2, e3]
    simp [St.step]

end Go.Proofs.YthhbohpmbkdkeaaDoor
