/- The walks of bytes.Clone and of deframe.take. -/
import Derived.Test.YthhbohpmbkdkeaaDoorLy
namespace Go.Proofs.YthhbohpmbkdkeaaDoor
open Go.RowKit

theorem nil_eq_nil (w : World) : (binOp .eql 23 (.slice none 0 0) (.slice none 0 0)).run Tryd.prog w = .ok (.bool true) w := by kernel_rfl

theorem some_ne_nil (g n cap : Nat) (w : World) : (binOp .eql 23 (.slice (some ⟨g, 0, none⟩) n cap) (.slice none 0 0)).run Tryd.prog w = .ok (.bool false) w := by kernel_rfl

theorem clone_run (B : Nat) (v : Value) (bs : List Int) (w : World) (hl : bs.length ≤ 65536) (h : BytesAt w B v bs) :
    Calls Tryd.prog 34 #[v] w fun e w' => ∃ ao n c, e = .returned (.slice ao n c) ∧ BytesAt w' w.heap.size (.slice ao n c) bs ∧ Below w.heap.size w w' := by
  rcases h.2 with ⟨rfl, h0⟩ | ⟨g, cap, cur, rfl, hb, hg, hn, hc, hcs, hcur⟩
  · have hbs : bs = [] := List.eq_nil_of_length_eq_zero h0
    subst hbs
    have hnn := nil_eq_nil
    go_enter Tryd.func34, Tryd.ntmps34
    go_wp2_with fail
    go_ret
    exact ⟨_, _, _, rfl, World.ownsRow_nil _ _ _ _, Below.refl _ _⟩
  · obtain ⟨i0, hi, hz0, hz1, hz2⟩ : ∃ i0, Tryd.prog.info? 5 = some i0 ∧ i0.zero = some (.int .u8 0) ∧ i0.size = 1 ∧ i0.bytes = 1 := info_parts (by kernel_rfl)
    have HI := Lib.hid (And.intro hi (And.intro hz0 (And.intro hz1 hz2)))
    have H := Lib.hid h
    have hnn := some_ne_nil g bs.length cap
    clear h hi hz0 hz1 hz2 hg hcur hcs hc hn
    go_enter Tryd.func34, Tryd.ntmps34
    have HC : Hid (∀ j u, (bs.map (Value.int .u8))[j]? = some u → w.cell? ((⟨g, 0, none⟩ : Addr).add j) = some u) := Lib.hid (fun j u hu => H.out.cells rfl j u hu)
    go_wp2_with (first
      | (at_builtin; refine wpList_append_own _ rfl _ _ 23 rfl w.heap.size 5 i0 (.int .u8 0) 1 1 Tryd.underlying23 HI.out.1 HI.out.2.1 HI.out.2.2.1 HI.out.2.2.2 rfl (by decide) _ _ _ rfl (World.ownsRow_made w #[] 0 (Nat.le_refl _) (by decide) rfl) ⟨g, 0, none⟩ bs.length cap (bs.map (.int .u8)) rfl (by simp) ?c1 ?c2 ?c3 ?c4 (by simp) ?_)
      | fail)
    case c1 =>
      intro j u hj
      have := HC.out j u hj
      exact (World.cell?_alloc_lt _ _ _ (World.block_lt_of_cell? w _ this)).trans this
    case c2 => intro u hu; obtain ⟨x, _, rfl⟩ := List.mem_map.1 hu; rfl
    case c3 => unfold maxLen; omega
    case c4 => omega
    intro v' w1 hown hg _
    obtain ⟨ao, nn, cc, rfl⟩ : ∃ ao nn cc, v' = .slice ao nn cc := by
      rcases hown.2 with ⟨h1, _⟩ | ⟨g', cap', _, h1, _⟩
      · exact ⟨_, _, _, h1⟩
      · exact ⟨_, _, _, h1⟩
    have hbl : Below w.heap.size w w1 := ((Below.refl _ _).alloc (Nat.le_refl _) _).grown hg (by simp) (by intro k hk; simp [Value.ownBlock] at hk; omega)
    have HF := Lib.hid (And.intro hown hbl)
    clear hown hg hbl
    go_wp2_with fail
    go_ret
    refine ⟨_, _, _, rfl, ?_, HF.out.2⟩
    have := HF.out.1
    simpa using this

/-- a row is gone, lies where it lay, or is new -/
def Fresh (w : World) (v v' : Value) : Prop := v'.ownBlock = none ∨ v'.ownBlock = v.ownBlock ∨ ∃ g, v'.ownBlock = some g ∧ w.heap.size ≤ g

theorem Fresh.same (w : World) (v : Value) : Fresh w v v := .inr (.inl rfl)
theorem Fresh.trans {w w1 : World} {a b c : Value} (h : Fresh w a b) (k : Fresh w1 b c) (hs : w.heap.size ≤ w1.heap.size) : Fresh w a c := by
  rcases k with k | k | ⟨g, k, hg⟩
  · exact .inl k
  · rcases h with h | h | ⟨g, h, hg⟩
    · exact .inl (k.trans h)
    · exact .inr (.inl (k.trans h))
    · exact .inr (.inr ⟨g, k.trans h, hg⟩)
  · exact .inr (.inr ⟨g, k, by omega⟩)
/-- apart from a row that is old -/
theorem Fresh.apart {w : World} {a b u : Value} (h : Fresh w a b) (hu : ∀ k, u.ownBlock = some k → k < w.heap.size) (ha : u.ownBlock = none ∨ u.ownBlock ≠ a.ownBlock) : u.ownBlock = none ∨ u.ownBlock ≠ b.ownBlock := by
  rcases ha with ha | ha
  · exact .inl ha
  rcases h with h | h | ⟨g, h, hg⟩
  · cases hx : u.ownBlock with
    | none => exact .inl rfl
    | some k => exact .inr (by rw [h]; simp)
  · exact .inr (by rw [h]; exact ha)
  · refine .inr fun e => ?_
    have := hu g (e.trans h)
    omega

theorem owns_apart {w : World} {B : Nat} {a b : Value} {n m : Nat} {xs ys : List Value} {t u : TypeId} (h : w.ownsRow B t 1 a n xs) (k : w.ownsRow B u 1 b m ys) (htu : t ≠ u) (i : Nat) : a.ownBlock = some i → some i ≠ b.ownBlock := by
  intro ha hb
  rcases h.2 with ⟨rfl, _⟩ | ⟨g, cap, cur, rfl, _, hg, _⟩
  · simp [Value.ownBlock] at ha
  rcases k.2 with ⟨rfl, _⟩ | ⟨g', cap', cur', rfl, _, hg', _⟩
  · simp [Value.ownBlock] at hb
  simp [Value.ownBlock] at ha hb
  subst ha
  subst hb
  rw [hg] at hg'
  simp at hg'
  exact htu hg'.2

/-- the object and the bytes of now have changed, no frame is found -/
theorem DAt.next {B bd : Nat} {nv fv : Value} {vs : List Value} {s : St} {w : World} (h : DAt B bd nv fv vs s w) {s' : St} {nv' : Value} {w' : World} (ho : w'.heap[bd]? = some (.cells (objOf bd s' nv' fv) 50 (0, 0)))
    (hm : Moved w w' (fun k => k = bd ∨ some k = nv.ownBlock)) (hn : BytesAt w' B nv' s'.now) (hf : s'.found = s.found) (hfr : Fresh w nv nv') (hl : s'.now.length ≤ s'.most ∧ s'.most ≤ 65536) : DAt B bd nv' fv vs s' w' := by
  have hlow := h.low
  refine ⟨hlow, Nat.le_trans h.size hm.size, ho, hn, ?_, by rw [hf]; exact h.many, ?_, ?_, hl⟩
  · refine owns_moved h.row hm (fun k hk => ?_)
    rintro (rfl | e)
    · have := (h.row.lt k hk).1; omega
    · exact owns_apart h.row h.now (by decide) k hk e
  · intro i v bs hv hb
    rw [hf] at hb
    have hx := h.els i v bs hv hb
    refine owns_moved hx hm (fun k hk => ?_)
    rintro (rfl | e)
    · have := (hx.lt k hk).1; omega
    · rcases h.apart v (List.mem_of_getElem? hv) with h0 | h0
      · rw [h0] at hk; cases hk
      · exact h0 (hk.trans e)
  · intro v hv
    refine hfr.apart (fun k hk => ?_) (h.apart v hv)
    obtain ⟨i, hi⟩ := List.getElem?_of_mem hv
    have hlt : i < s.found.length := by rw [← h.many]; exact (List.getElem?_eq_some_iff.1 hi).1
    exact ((h.els i v _ hi (List.getElem?_eq_getElem hlt)).lt k hk).2
end Go.Proofs.YthhbohpmbkdkeaaDoor
