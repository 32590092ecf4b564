/- A frame begun, broken off, and fed anew: the plain law. No program. -/
import Derived.Test.YthhbohpmbkdkeaaDoorFd
import Derived.Test.YthhbohpmbkdkeaaDoorGt
import Derived.Test.YthhbohpmbkdkeaaDoorGd
namespace Go.Proofs.YthhbohpmbkdkeaaDoor

theorem lay_fits {s : St} {bs : List Int} (h : s.now.length + bs.length ≤ s.most) : s.lay bs = { s with now := s.now ++ bs } := by
  rw [St.lay, if_neg (by rw [List.length_append]; omega)]

theorem goodL_cons {c : Int} {l : List Int} (h : goodL (c :: l) = true) : c ≠ 11 ∧ goodL l = true := by
  refine ⟨(good_iff.1 h 0 c rfl).1, ?_⟩
  have := good_drop h 1
  simpa using this

/-- bytes that may be in a frame are laid as they are -/
theorem feed_good : ∀ (bs : List Int) (s : St), s.inn = true →
    (s.fin = false → goodL bs = true → s.now.length + bs.length ≤ s.most → s.feed bs = { s with now := s.now ++ bs }) ∧
    (s.fin = true → goodL (28 :: bs) = true → s.now.length + 1 + bs.length ≤ s.most → s.feed bs = { s with fin := false, now := s.now ++ 28 :: bs })
  | [], s, hi => by
    refine ⟨fun hf _ _ => by simp [St.feed], fun _ h _ => ?_⟩
    simp [goodL] at h
  | c :: l, s, hi => by
    constructor
    · intro hf hg hm
      obtain ⟨h11, hl⟩ := goodL_cons hg
      simp only [List.length_cons] at hm
      by_cases h28 : c = 28
      · subst h28
        have e : s.step 28 = { s with fin := true } := by simp [St.step, hi, hf]
        show (s.step 28).feed l = _
        rw [e, (feed_good l { s with fin := true } hi).2 rfl hg (by simp; omega)]
        simp [hf]
      · have e : s.step c = { s with now := s.now ++ [c] } := by
          have e1 : s.step c = s.lay [c] := by simp [St.step, hi, hf, h11, h28]
          rw [e1, lay_fits (by simp; omega)]
        show (s.step c).feed l = _
        rw [e, (feed_good l { s with now := s.now ++ [c] } hi).1 hf hl (by simp; omega)]
        simp
    · intro hf hg hm
      obtain ⟨_, hg2⟩ := goodL_cons hg
      obtain ⟨h11, hl⟩ := goodL_cons hg2
      have h13 : c ≠ 13 := by
        obtain ⟨d, hd, hn⟩ := (good_iff.1 hg 0 28 rfl).2 rfl
        simp at hd
        subst hd
        exact hn
      simp only [List.length_cons] at hm
      by_cases h28 : c = 28
      · subst h28
        have e : s.step 28 = { s with now := s.now ++ [28] } := by
          have e1 : s.step 28 = s.lay [28] := by simp [St.step, hi, hf]
          rw [e1, lay_fits (by simp; omega)]
        show (s.step 28).feed l = _
        rw [e, (feed_good l { s with now := s.now ++ [28] } hi).2 hf hg2 (by simp; omega)]
        simp
      · have e : s.step c = { s with fin := false, now := s.now ++ [28, c] } := by
          have e1 : s.step c = St.lay { s with fin := false } [28, c] := by simp [St.step, hi, hf, h11, h13, h28]
          rw [e1, lay_fits (by simp; omega)]
        show (s.step c).feed l = _
        rw [e, (feed_good l { s with fin := false, now := s.now ++ [28, c] } hi).1 rfl hl (by simp; omega)]
        simp

/-- no sign by which a frame ends or begins -/
def cleanL (bs : List Int) : Prop := ∀ (i : Nat) (c : Int), bs[i]? = some c → c ≠ 11 ∧ (c = 28 → bs[i + 1]? ≠ some 13)

theorem good_clean {bs : List Int} (h : goodL bs = true) (k : Nat) : cleanL (bs.take k) := by
  intro i c hc
  have hik : i < k := by
    have := (List.getElem?_eq_some_iff.1 hc).1
    rw [List.length_take] at this
    omega
  rw [List.getElem?_take_of_lt hik] at hc
  obtain ⟨h1, h2⟩ := good_iff.1 h i c hc
  refine ⟨h1, fun e h13 => ?_⟩
  obtain ⟨d, hd, hn⟩ := h2 e
  have hl := (List.getElem?_eq_some_iff.1 h13).1
  rw [List.length_take] at hl
  rw [List.getElem?_take_of_lt (by omega), hd] at h13
  cases h13
  exact hn rfl

theorem clean_cons {c : Int} {l : List Int} (h : cleanL (c :: l)) : c ≠ 11 ∧ cleanL l ∧ (c = 28 → l[0]? ≠ some 13) := by
  refine ⟨(h 0 c rfl).1, fun i x hx => ?_, fun e => ?_⟩
  · have := h (i + 1) x (by simpa using hx)
    simpa using this
  · have := (h 0 c rfl).2 e
    simpa using this

/-- a frame is begun, and nothing else has happened -/
structure Begun (m : Nat) (s : St) : Prop where
  most : s.most = m
  inn : s.inn = true
  junk : s.junk = 0
  over : s.over = 0
  broken : s.broken = 0
  found : s.found = []

theorem feed_clean (m : Nat) : ∀ (bs : List Int) (s : St), Begun m s → cleanL bs → (s.fin = true → bs[0]? ≠ some 13) → s.now.length + (if s.fin then 1 else 0) + bs.length ≤ m → Begun m (s.feed bs) := by
  intro bs
  induction bs with
  | nil => intro s h _ _ _; exact h
  | cons c l ih =>
    intro s h hc h13 hm
    obtain ⟨h11, hl, h28n⟩ := clean_cons hc
    have hi := h.inn
    have hmost := h.most
    simp only [List.length_cons] at hm
    show Begun m ((s.step c).feed l)
    cases hf : s.fin
    · rw [hf] at hm
      by_cases h28 : c = 28
      · subst h28
        have e : s.step 28 = { s with fin := true } := by simp [St.step, hi, hf]
        rw [e]
        exact ih _ ⟨h.most, h.inn, h.junk, h.over, h.broken, h.found⟩ hl (fun _ => h28n rfl) (by simp at hm ⊢; omega)
      · have e : s.step c = { s with now := s.now ++ [c] } := by
          have e1 : s.step c = s.lay [c] := by simp [St.step, hi, hf, h11, h28]
          rw [e1, lay_fits (by simp at hm ⊢; omega)]
        rw [e]
        exact ih _ ⟨h.most, h.inn, h.junk, h.over, h.broken, h.found⟩ hl (fun e => by simp [hf] at e) (by simp [hf] at hm ⊢; omega)
    · rw [hf] at hm
      have hn13 : c ≠ 13 := fun e => h13 hf (by simp [e])
      by_cases h28 : c = 28
      · subst h28
        have e : s.step 28 = { s with now := s.now ++ [28] } := by
          have e1 : s.step 28 = s.lay [28] := by simp [St.step, hi, hf]
          rw [e1, lay_fits (by simp at hm ⊢; omega)]
        rw [e]
        exact ih _ ⟨h.most, h.inn, h.junk, h.over, h.broken, h.found⟩ hl (fun _ => h28n rfl) (by simp [hf] at hm ⊢; omega)
      · have e : s.step c = { s with fin := false, now := s.now ++ [28, c] } := by
          have e1 : s.step c = St.lay { s with fin := false } [28, c] := by simp [St.step, hi, hf, h11, hn13, h28]
          rw [e1, lay_fits (by simp at hm ⊢; omega)]
        rw [e]
        exact ih _ ⟨h.most, h.inn, h.junk, h.over, h.broken, h.found⟩ hl (fun e => by simp at e) (by simp at hm ⊢; omega)

/-- a frame begun by any of its bytes but the last -/
theorem begun_any (m : Nat) {bs : List Int} (hg : goodL bs = true) (hm : bs.length ≤ m) (k : Nat) (hk : 1 ≤ k) (hk2 : k ≤ bs.length + 2) : Begun m ((St.fresh m).feed ((wrapL bs).take k)) := by
  obtain ⟨j, rfl⟩ : ∃ j, k = j + 1 := ⟨k - 1, by omega⟩
  have e0 : (St.fresh m).step 11 = (St.fresh m).begin := by simp [St.step, St.fresh]
  have hb : Begun m (St.fresh m).begin := ⟨rfl, rfl, rfl, rfl, rfl, rfl⟩
  rw [wrapL, List.take_succ_cons]
  show Begun m (((St.fresh m).step 11).feed _)
  rw [e0]
  by_cases hj : j ≤ bs.length
  · rw [List.take_append_of_le_length hj]
    refine feed_clean m _ _ hb (good_clean hg j) (fun e => by simp [St.begin] at e) ?_
    simp [St.begin]
    omega
  · have hj' : j = bs.length + 1 := by omega
    subst hj'
    have e1 : (bs ++ [28, 13]).take (bs.length + 1) = bs ++ [28] := by
      rw [List.take_append, List.take_of_length_le (by omega)]
      simp
    have e2 : (St.fresh m).begin.feed (bs ++ [28]) = ((St.fresh m).begin.feed bs).step 28 := by simp [St.feed]
    have e3 := (feed_good bs (St.fresh m).begin rfl).1 rfl hg (by simp [St.begin, St.fresh]; exact hm)
    rw [e1, e2, e3]
    simp [St.step, St.begin, St.fresh]
    exact ⟨rfl, rfl, rfl, rfl, rfl, rfl⟩

/-- a frame that is fed while another is begun: that one is broken off, this one found -/
theorem feed_anew (m : Nat) {bs : List Int} (hg : goodL bs = true) (hm : bs.length ≤ m) (s : St) (h : Begun m s) :
    s.feed (wrapL bs) = ⟨m, false, false, [], [bs], 0, 0, 1⟩ := by
  have e0 : s.step 11 = St.begin { s with broken := s.broken + 1 } := by simp [St.step, h.inn]
  have e1 : s.feed (wrapL bs) = (((s.step 11).feed bs).step 28).step 13 := by simp [wrapL, St.feed]
  have hmost := h.most
  rw [e1, e0, (feed_good bs (St.begin { s with broken := s.broken + 1 }) rfl).1 rfl hg (by simp [St.begin, hmost]; exact hm)]
  simp [St.step, St.begin, St.outside, h.most, h.junk, h.over, h.broken, h.found]

end Go.Proofs.YthhbohpmbkdkeaaDoor
