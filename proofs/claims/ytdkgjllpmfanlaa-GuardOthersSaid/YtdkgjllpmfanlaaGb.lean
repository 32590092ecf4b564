/- A row of functions that is built by append, each over a box of its own: what holds round by round, and behind it. -/
import Derived.Test.YtdkgjllpmfanlaaRf
namespace Go.Proofs.Ytdkgjllpmfanlaa
open Go.RowKit

/-- the closure g over the counter at m and the box at b -/
abbrev clo (g : FuncId) (m b : Nat) : Value := .func (.func g) #[] #[.pointer (some ⟨m, 0, none⟩), .pointer (some ⟨b, 0, none⟩)]

structure Built (w0 : World) (g : FuncId) (m : Nat) (K X : Nat → Int) (bx : Nat → Nat) (k : Nat) (v : Value) (w : World) : Prop where
  own : w.ownsRow (m + 1) 1 1 v k ((List.range k).map fun j => clo g m (bx j))
  box : ∀ j, j < k → m + 1 ≤ bx j ∧ w.heap[bx j]? = some (.cells #[.int .i64 (K j), .int .i64 (X j)] 26 (0, 0))
  cell : w.cell? ⟨m, 0, none⟩ = some (.int .i64 0)
  free : w.frozen? ⟨m, 0, none⟩ = false
  kept : Below m w0 w
  size : m + 1 ≤ w.heap.size

theorem Built.start {w0 w : World} (g : FuncId) {m : Nat} (K X : Nat → Int) (bx : Nat → Nat) (hc : w.cell? ⟨m, 0, none⟩ = some (.int .i64 0)) (hz : w.frozen? ⟨m, 0, none⟩ = false) (hk : Below m w0 w) (hs : m + 1 ≤ w.heap.size) :
    Built w0 g m K X bx 0 (.slice none 0 0) w :=
  ⟨World.ownsRow_nil _ _ _ _, fun j hj => by omega, hc, hz, hk, hs⟩

theorem Built.round {w0 : World} {g : FuncId} {m : Nat} {K X : Nat → Int} {bx : Nat → Nat} {k : Nat} {v : Value} {w : World} (h : Built w0 g m K X bx k v w)
    {v' : Value} {w' : World} {o : Obj} (hown : w'.ownsRow (m + 1) 1 1 v' (k + 1) ((List.range k).map (fun j => clo g m (bx j)) ++ [clo g m w.heap.size]))
    (hg : ((w.alloc (.cells #[.int .i64 (K k), .int .i64 (X k)] 26)).alloc o).grownBy w' v.ownBlock) :
    Built w0 g m K X (fun j => if j = k then w.heap.size else bx j) (k + 1) v' w' := by
  have hs : ((w.alloc (.cells #[.int .i64 (K k), .int .i64 (X k)] 26)).alloc o).heap.size = w.heap.size + 2 := by simp
  -- a block that is no row of functions stays
  have hne : ∀ b, b < w.heap.size → (∀ cur z, w.heap[b]? ≠ some (.cells cur 1 z)) → w'.heap[b]? = w.heap[b]? := by
    intro b hb hn
    rw [hg.block b (by omega), Below.heap_alloc _ _ _ (by simp; omega), Below.heap_alloc _ _ _ hb]
    rcases h.own.2 with ⟨rfl, _⟩ | ⟨g', cap, cur, rfl, hb', hh, _⟩
    · simp [Value.ownBlock]
    · simp only [Value.ownBlock]
      intro he
      injection he with he
      subst he
      exact hn _ _ hh
  have hlow : ∀ b, b < m + 1 → w'.heap[b]? = w.heap[b]? := by
    intro b hb
    have := h.size
    rw [hg.block b (by omega), Below.heap_alloc _ _ _ (by simp; omega), Below.heap_alloc _ _ _ (by omega)]
    rcases h.own.2 with ⟨rfl, _⟩ | ⟨g', cap, cur, rfl, hb', hh, _⟩
    · simp [Value.ownBlock]
    · simp only [Value.ownBlock]
      intro he
      injection he with he
      omega
  refine ⟨?_, ?_, ?_, ?_, ?_, ?_⟩
  · rw [List.range_succ, List.map_append, List.map_congr_left (g := fun j => clo g m (bx j)) (fun j hj => by rw [if_neg (by have := List.mem_range.1 hj; omega)])]
    simpa using hown
  · intro j hj
    by_cases hjk : j = k
    · subst hjk
      simp only [if_true]
      refine ⟨h.size, ?_⟩
      rw [hg.block w.heap.size (by omega), Below.heap_alloc _ _ _ (by simp)]
      · exact heap_alloc_new w _
      · rcases h.own.2 with ⟨rfl, _⟩ | ⟨g', cap, cur, rfl, hb', hh, _⟩
        · simp [Value.ownBlock]
        · simp only [Value.ownBlock]
          intro he
          injection he with he
          have := (Array.getElem?_eq_some_iff.1 hh).1
          omega
    · simp only [if_neg hjk]
      obtain ⟨h1, h2⟩ := h.box j (by omega)
      refine ⟨h1, ?_⟩
      rw [hne _ (Array.getElem?_eq_some_iff.1 h2).1 (fun cur z => by rw [h2]; simp)]
      exact h2
  · rw [World.cell?_of_block (w := w) (hlow _ (by simp))]; exact h.cell
  · rw [World.frozen?_of_block (w := w) (hlow _ (by simp))]; exact h.free
  · have hk := h.kept
    have hz := h.size
    refine ⟨hg.os.trans hk.os, hg.tape.trans hk.tape, hg.output.trans hk.output, ?_, fun b hb => (hlow b (by omega)).trans (hk.block b hb)⟩
    have := hg.size; have := hk.size; omega
  · have := hg.size; have := h.size; omega

/-- behind the building: what a row over these functions needs -/
structure Ready (w0 : World) (g : FuncId) (m b n : Nat) (K X : Nat → Int) (bx : Nat → Nat) (s : Int) (w : World) : Prop where
  row : ∀ j, j < n → w.cell? ⟨b, j, none⟩ = some (clo g m (bx j))
  box : ∀ j, j < n → w.cell? ⟨bx j, 0, none⟩ = some (.int .i64 (K j)) ∧ w.cell? ⟨bx j, 1, none⟩ = some (.int .i64 (X j))
  cell : w.cell? ⟨m, 0, none⟩ = some (.int .i64 s)
  free : w.frozen? ⟨m, 0, none⟩ = false
  kept : Below m w0 w

/-- where the blocks lie -/
structure Lies (m b n : Nat) (bx : Nat → Nat) (B : Nat) : Prop where
  cnt : m < B
  row : m < b ∧ b < B
  box : ∀ j, j < n → m < bx j ∧ bx j < B

theorem Lies.mono {m b n : Nat} {bx : Nat → Nat} {B B' : Nat} (h : Lies m b n bx B) (hB : B ≤ B') : Lies m b n bx B' :=
  ⟨Nat.lt_of_lt_of_le h.cnt hB, ⟨h.row.1, Nat.lt_of_lt_of_le h.row.2 hB⟩, fun j hj => ⟨(h.box j hj).1, Nat.lt_of_lt_of_le (h.box j hj).2 hB⟩⟩

theorem firstStop_some {op : Nat → Option Int} : ∀ {r i j : Nat} {c : Int}, firstStop op j r = some (i, c) → j ≤ i ∧ i < j + r ∧ op i = some c := by
  intro r
  induction r with
  | zero => intro i j c h; simp [firstStop] at h
  | succ r ih =>
    intro i j c h
    rw [firstStop] at h
    cases ho : op j with
    | some d =>
      rw [ho] at h
      simp at h
      obtain ⟨rfl, rfl⟩ := h
      exact ⟨Nat.le_refl _, by omega, ho⟩
    | none =>
      rw [ho] at h
      obtain ⟨h1, h2, h3⟩ := ih h
      exact ⟨by omega, by omega, h3⟩

theorem Ready.below {w0 : World} {g : FuncId} {m b n : Nat} {K X : Nat → Int} {bx : Nat → Nat} {s : Int} {w w' : World} {B : Nat} (h : Ready w0 g m b n K X bx s w) (hl : Lies m b n bx B) (hb : Below B w w') :
    Ready w0 g m b n K X bx s w' := by
  have h1 := hl.cnt
  have h2 := hl.row
  refine ⟨fun j hj => (hb.cell (p := ⟨b, j, none⟩) h2.2).trans (h.row j hj), fun j hj => ?_, (hb.cell (p := ⟨m, 0, none⟩) h1).trans h.cell, (hb.frozen (p := ⟨m, 0, none⟩) h1).trans h.free, h.kept.trans (hb.mono (Nat.le_of_lt h1))⟩
  have h3 := hl.box j hj
  exact ⟨(hb.cell (p := ⟨bx j, 0, none⟩) h3.2).trans (h.box j hj).1, (hb.cell (p := ⟨bx j, 1, none⟩) h3.2).trans (h.box j hj).2⟩

theorem Ready.set {w0 : World} {g : FuncId} {m b n : Nat} {K X : Nat → Int} {bx : Nat → Nat} {s : Int} {w : World} {B : Nat} (h : Ready w0 g m b n K X bx s w) (hl : Lies m b n bx B) (s' : Int) :
    Ready w0 g m b n K X bx s' (w.setCell ⟨m, 0, none⟩ (.int .i64 s')) := by
  have h2 := hl.row
  have ho : ∀ c o, m < c → (w.setCell ⟨m, 0, none⟩ (.int .i64 s')).cell? ⟨c, o, none⟩ = w.cell? ⟨c, o, none⟩ := fun c o hc => World.cell?_setCell_other _ _ _ _ (fun h => by injection h; omega)
  refine ⟨fun j hj => (ho _ _ h2.1).trans (h.row j hj), fun j hj => ?_, World.cell?_setCell_same _ _ _ h.cell, by simp [h.free], h.kept.setCell (p := ⟨m, 0, none⟩) (Nat.le_refl _) _⟩
  have h3 := hl.box j hj
  exact ⟨(ho _ _ h3.1).trans (h.box j hj).1, (ho _ _ h3.1).trans (h.box j hj).2⟩

/-- the row that was built: nil, or at a block -/
theorem Built.ready {w0 : World} {g : FuncId} {m : Nat} {K X : Nat → Int} {bx : Nat → Nat} {n : Nat} {v : Value} {w : World} (h : Built w0 g m K X bx n v w) :
    (v = .slice none 0 0 ∧ n = 0) ∨ ∃ b cp, v = .slice (some ⟨b, 0, none⟩) n cp ∧ Lies m b n bx w.heap.size ∧ Ready w0 g m b n K X bx 0 w ∧ n ≤ cp ∧ cp ≤ maxLen := by
  rcases h.own.2 with ⟨hv, hn⟩ | ⟨b, cap, cur, hv, hb, hh, hcap, hmx, hrest⟩
  · exact .inl ⟨hv, hn⟩
  right
  have hbl := (Array.getElem?_eq_some_iff.1 hh).1
  refine ⟨b, cap, hv, ⟨h.size, ⟨hb, hbl⟩, fun j hj => ⟨(h.box j hj).1, (Array.getElem?_eq_some_iff.1 (h.box j hj).2).1⟩⟩, ⟨?_, ?_, h.cell, h.free, h.kept⟩, hcap, hmx⟩
  · intro j hj
    have := h.own.cells (g := b) (by rw [hv]; rfl) j (clo g m (bx j)) (by simp [hj])
    rw [Addr.add_lit, Nat.zero_add] at this
    exact this
  · intro j hj
    have h2 := (h.box j hj).2
    simp [World.cell?, h2]

/-- the step of GuardRows -/
theorem c13_go (m b : Nat) (s k x : Int) (w : World) (hk : (k == 1) = false) (hs : -300000 ≤ s ∧ s ≤ 300000)
    (hc : w.cell? ⟨m, 0, none⟩ = some (.int .i64 s)) (hz : w.frozen? ⟨m, 0, none⟩ = false) (hne : m ≠ b) (h0 : w.cell? ⟨b, 0, none⟩ = some (.int .i64 k)) (h1 : w.cell? ⟨b, 1, none⟩ = some (.int .i64 x)) :
    Calls Try.prog 13 #[.pointer (some ⟨m, 0, none⟩), .pointer (some ⟨b, 0, none⟩)] w fun e w' => e = .returned (.tuple #[]) ∧ w' = w.setCell ⟨m, 0, none⟩ (.int .i64 (s + x.tmod 1000)) := by
  have ht := tmod_lt x
  have h0' : ∀ v, (w.setCell ⟨m, 0, none⟩ v).cell? ⟨b, 0, none⟩ = some (.int .i64 k) := fun v => (World.cell?_setCell_other _ _ _ _ (fun h => by injection h; omega)).trans h0
  have h1' : ∀ v, (w.setCell ⟨m, 0, none⟩ v).cell? ⟨b, 1, none⟩ = some (.int .i64 x) := fun v => (World.cell?_setCell_other _ _ _ _ (fun h => by injection h; omega)).trans h1
  go_enter Try.func13, Try.ntmps13
  go_wp2
  exact ⟨rfl, .tuple #[], results_none rfl _ _ _, rfl, rfl⟩
theorem c13_stop (m b : Nat) (s k x : Int) (w : World) (hk : (k == 1) = true) (hs : -300000 ≤ s ∧ s ≤ 300000)
    (hc : w.cell? ⟨m, 0, none⟩ = some (.int .i64 s)) (hz : w.frozen? ⟨m, 0, none⟩ = false) (hne : m ≠ b) (h0 : w.cell? ⟨b, 0, none⟩ = some (.int .i64 k)) (h1 : w.cell? ⟨b, 1, none⟩ = some (.int .i64 x)) :
    Calls Try.prog 13 #[.pointer (some ⟨m, 0, none⟩), .pointer (some ⟨b, 0, none⟩)] w fun e w' => e = .panicked [{ v := crash x, recovered := false }] ∧ w' = w.setCell ⟨m, 0, none⟩ (.int .i64 (s + x.tmod 1000)) := by
  have ht := tmod_lt x
  have h0' : ∀ v, (w.setCell ⟨m, 0, none⟩ v).cell? ⟨b, 0, none⟩ = some (.int .i64 k) := fun v => (World.cell?_setCell_other _ _ _ _ (fun h => by injection h; omega)).trans h0
  have h1' : ∀ v, (w.setCell ⟨m, 0, none⟩ v).cell? ⟨b, 1, none⟩ = some (.int .i64 x) := fun v => (World.cell?_setCell_other _ _ _ _ (fun h => by injection h; omega)).trans h1
  go_enter Try.func13, Try.ntmps13
  go_wp2_with fail
  refine (lose_any _ _).mono ?_
  rintro e w2 ⟨rfl, rfl⟩
  go_wp2_with fail
  exact ⟨rfl, rfl, rfl⟩

/-- the step of GuardAgain -/
theorem c11_go (m b : Nat) (s k x : Int) (w : World) (hk : (k == 1) = false) (hs : -300000 ≤ s ∧ s ≤ 300000)
    (hc : w.cell? ⟨m, 0, none⟩ = some (.int .i64 s)) (hz : w.frozen? ⟨m, 0, none⟩ = false) (hne : m ≠ b) (h0 : w.cell? ⟨b, 0, none⟩ = some (.int .i64 k)) (h1 : w.cell? ⟨b, 1, none⟩ = some (.int .i64 x)) :
    Calls Try.prog 11 #[.pointer (some ⟨m, 0, none⟩), .pointer (some ⟨b, 0, none⟩)] w fun e w' => e = .returned (.tuple #[]) ∧ w' = w.setCell ⟨m, 0, none⟩ (.int .i64 (s + 1)) := by
  have h0' : ∀ v, (w.setCell ⟨m, 0, none⟩ v).cell? ⟨b, 0, none⟩ = some (.int .i64 k) := fun v => (World.cell?_setCell_other _ _ _ _ (fun h => by injection h; omega)).trans h0
  have h1' : ∀ v, (w.setCell ⟨m, 0, none⟩ v).cell? ⟨b, 1, none⟩ = some (.int .i64 x) := fun v => (World.cell?_setCell_other _ _ _ _ (fun h => by injection h; omega)).trans h1
  go_enter Try.func11, Try.ntmps11
  go_wp2
  exact ⟨rfl, .tuple #[], results_none rfl _ _ _, rfl, rfl⟩
theorem c11_stop (m b : Nat) (s k x : Int) (w : World) (hk : (k == 1) = true) (hs : -300000 ≤ s ∧ s ≤ 300000)
    (hc : w.cell? ⟨m, 0, none⟩ = some (.int .i64 s)) (hz : w.frozen? ⟨m, 0, none⟩ = false) (hne : m ≠ b) (h0 : w.cell? ⟨b, 0, none⟩ = some (.int .i64 k)) (h1 : w.cell? ⟨b, 1, none⟩ = some (.int .i64 x)) :
    Calls Try.prog 11 #[.pointer (some ⟨m, 0, none⟩), .pointer (some ⟨b, 0, none⟩)] w fun e w' => e = .panicked [{ v := crash x, recovered := false }] ∧ w' = w.setCell ⟨m, 0, none⟩ (.int .i64 (s + 1)) := by
  have h0' : ∀ v, (w.setCell ⟨m, 0, none⟩ v).cell? ⟨b, 0, none⟩ = some (.int .i64 k) := fun v => (World.cell?_setCell_other _ _ _ _ (fun h => by injection h; omega)).trans h0
  have h1' : ∀ v, (w.setCell ⟨m, 0, none⟩ v).cell? ⟨b, 1, none⟩ = some (.int .i64 x) := fun v => (World.cell?_setCell_other _ _ _ _ (fun h => by injection h; omega)).trans h1
  go_enter Try.func11, Try.ntmps11
  go_wp2
  exact ⟨rfl, rfl, rfl⟩

/-- Row over such a row, from an element on: what it tells, and the counter behind it -/
theorem row_ready (g : FuncId) (hen : ∀ cap, Enters g cap) (S : Nat → Int) (w0 : World) (m b n off r cp : Nat) (K X : Nat → Int) (bx : Nat → Nat) (hn : (r : Int) ≤ 300) (hor : off + r = n)
    (hgo : ∀ i s w, i < r → s = S i → (K (off + i) == 1) = false → m ≠ bx (off + i) → w.cell? ⟨m, 0, none⟩ = some (.int .i64 s) → w.frozen? ⟨m, 0, none⟩ = false → w.cell? ⟨bx (off + i), 0, none⟩ = some (.int .i64 (K (off + i))) → w.cell? ⟨bx (off + i), 1, none⟩ = some (.int .i64 (X (off + i))) →
      Calls Try.prog g #[.pointer (some ⟨m, 0, none⟩), .pointer (some ⟨bx (off + i), 0, none⟩)] w fun e w' => e = .returned (.tuple #[]) ∧ w' = w.setCell ⟨m, 0, none⟩ (.int .i64 (S (i + 1))))
    (hstop : ∀ i s w, i < r → s = S i → (K (off + i) == 1) = true → m ≠ bx (off + i) → w.cell? ⟨m, 0, none⟩ = some (.int .i64 s) → w.frozen? ⟨m, 0, none⟩ = false → w.cell? ⟨bx (off + i), 0, none⟩ = some (.int .i64 (K (off + i))) → w.cell? ⟨bx (off + i), 1, none⟩ = some (.int .i64 (X (off + i))) →
      Calls Try.prog g #[.pointer (some ⟨m, 0, none⟩), .pointer (some ⟨bx (off + i), 0, none⟩)] w fun e w' => e = .panicked [{ v := crash (X (off + i)), recovered := false }] ∧ w' = w.setCell ⟨m, 0, none⟩ (.int .i64 (S (i + 1))))
    (w : World) (hl : Lies m b n bx w.heap.size) (hr : Ready w0 g m b n K X bx (S 0) w) :
    Calls Try.prog 12 #[.slice (some ⟨b, off, none⟩) r cp] w fun e w' =>
      e = rowTold r (firstStop (fun i => opOf K X (off + i)) 0 r) ∧ w.heap.size ≤ w'.heap.size ∧ Ready w0 g m b n K X bx (S (rowCalled r (firstStop (fun i => opOf K X (off + i)) 0 r))) w' := by
  refine (row_walk r b off cp (fun j => clo g m (bx (off + j))) (fun i => opOf K X (off + i)) w.heap.size (fun i w' => Ready w0 g m b n K X bx (S i) w') (by omega)
    (fun i w' h j hj => h.row (off + j) (by omega)) (fun i w1 w2 h hb => h.below hl hb) ?_ w hr (Nat.le_refl _)).mono (fun e w' ⟨h1, h2, h3⟩ => ⟨h1, h2.size, h3⟩)
  intro i w1 hi hR hB
  refine run_step g _ (opOf K X (off + i)) (hen _) w1 (fun w' => Ready w0 g m b n K X bx (S i) w') (fun w' => Ready w0 g m b n K X bx (S (i + 1)) w') hB (fun _ _ h hb => h.below hl hb) (fun _ _ h hb => h.below hl hb) hR ?_
  intro w2 hR2 hB2
  have hbx := hl.box (off + i) (by omega)
  have hb2 := hR2.box (off + i) (by omega)
  by_cases hk : K (off + i) = 1
  · refine (hstop i (S i) w2 hi rfl (by simpa using hk) (by omega) hR2.cell hR2.free hb2.1 hb2.2).mono ?_
    rintro e w' ⟨rfl, rfl⟩
    exact ⟨by simp [opOf, hk, endsAs], (KeepFrom.refl _ _).setCell hl.cnt _, hR2.set hl _⟩
  · refine (hgo i (S i) w2 hi rfl (by simpa using hk) (by omega) hR2.cell hR2.free hb2.1 hb2.2).mono ?_
    rintro e w' ⟨rfl, rfl⟩
    exact ⟨by simp [opOf, hk, endsAs], (KeepFrom.refl _ _).setCell hl.cnt _, hR2.set hl _⟩

/-- Row over no functions -/
theorem row_none (w : World) : Calls Try.prog 12 #[.slice none 0 0] w fun e w' => e = .returned (.tuple #[.int .i64 0, .agg #[.int .i64 0], .bool false]) ∧ Below w.heap.size w w' := by
  go_enter Try.func12, Try.ntmps12
  go_wp2_with fail
  go_loopw [11] (fun i wr => i = .int .i64 0 ∧ wr = w.alloc (.cells #[.int .i64 0] 28)) (fun i _ => 0)
  case atStart => exact ⟨rfl, rfl⟩
  case round =>
    obtain ⟨rfl, rfl⟩ := hrel
    go_wp2_with fail
    exact bodyPost_ret (v := .tuple #[.int .i64 0, .agg #[.int .i64 0], .bool false]) (by simp [results, Try.results12, go_sem]) rfl ⟨rfl, (Below.refl _ _).alloc (Nat.le_refl _) _⟩
/-- Row over the whole row that was built -/
theorem Built.called {w0 : World} {g : FuncId} {m : Nat} {K X : Nat → Int} {bx : Nat → Nat} {n : Nat} {v : Value} {w : World} (h : Built w0 g m K X bx n v w) (hen : ∀ cap, Enters g cap) (S : Nat → Int) (hS : S 0 = 0) (hn : (n : Int) ≤ 300)
    (hgo : ∀ i s b w, i < n → s = S i → (K i == 1) = false → m ≠ b → w.cell? ⟨m, 0, none⟩ = some (.int .i64 s) → w.frozen? ⟨m, 0, none⟩ = false → w.cell? ⟨b, 0, none⟩ = some (.int .i64 (K i)) → w.cell? ⟨b, 1, none⟩ = some (.int .i64 (X i)) →
      Calls Try.prog g #[.pointer (some ⟨m, 0, none⟩), .pointer (some ⟨b, 0, none⟩)] w fun e w' => e = .returned (.tuple #[]) ∧ w' = w.setCell ⟨m, 0, none⟩ (.int .i64 (S (i + 1))))
    (hstop : ∀ i s b w, i < n → s = S i → (K i == 1) = true → m ≠ b → w.cell? ⟨m, 0, none⟩ = some (.int .i64 s) → w.frozen? ⟨m, 0, none⟩ = false → w.cell? ⟨b, 0, none⟩ = some (.int .i64 (K i)) → w.cell? ⟨b, 1, none⟩ = some (.int .i64 (X i)) →
      Calls Try.prog g #[.pointer (some ⟨m, 0, none⟩), .pointer (some ⟨b, 0, none⟩)] w fun e w' => e = .panicked [{ v := crash (X i), recovered := false }] ∧ w' = w.setCell ⟨m, 0, none⟩ (.int .i64 (S (i + 1)))) :
    Calls Try.prog 12 #[v] w fun e w' => e = rowTold n (firstStop (opOf K X) 0 n) ∧ w.heap.size ≤ w'.heap.size ∧ w'.cell? ⟨m, 0, none⟩ = some (.int .i64 (S (rowCalled n (firstStop (opOf K X) 0 n)))) ∧ Below m w0 w' := by
  rcases h.ready with ⟨rfl, rfl⟩ | ⟨b, cp, rfl, hl, hr, -, -⟩
  · refine (row_none w).mono ?_
    rintro e w' ⟨rfl, hb⟩
    have hs := h.size
    exact ⟨rfl, hb.size, by rw [hb.cell (p := ⟨m, 0, none⟩) (by show m < _; omega), h.cell]; simp [firstStop, rowCalled, hS], h.kept.trans (hb.mono (by omega))⟩
  · have := row_ready g hen S w0 m b n 0 n cp K X bx hn (by omega)
      (fun i s w hi hs hk hne h1 h2 h3 h4 => by rw [Nat.zero_add] at *; exact hgo i s _ w hi hs hk hne h1 h2 h3 h4)
      (fun i s w hi hs hk hne h1 h2 h3 h4 => by rw [Nat.zero_add] at *; exact hstop i s _ w hi hs hk hne h1 h2 h3 h4) w hl (by rw [hS]; exact hr)
    simp only [Nat.zero_add] at this
    exact this.mono fun e w' ⟨h1, h2, h3⟩ => ⟨h1, h2, h3.cell, h3.kept⟩
end Go.Proofs.Ytdkgjllpmfanlaa
