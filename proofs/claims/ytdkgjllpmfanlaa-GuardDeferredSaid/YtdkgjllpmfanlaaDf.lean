/- The walks of law03.GuardDeferred. -/
import Derived.Test.YtdkgjllpmfanlaaNe
namespace Go.Proofs.Ytdkgjllpmfanlaa
open Go.RowKit

/-- where the order stands: the counter, the order's own row, and what is older -/
structure Ord (w0 : World) (bm b5 b6 base : Nat) (op k : Int) (xs : List Int) (w : World) : Prop where
  kept : Below bm w0 w
  cm : w.cell? ⟨bm, 0, none⟩ = some (.int .i64 op)
  c5 : w.cell? ⟨b5, 0, none⟩ = some (.int .i64 k)
  c6 : ∃ v, w.cell? ⟨b6, 0, none⟩ = some v ∧ w.ownsRow base 3 1 v xs.length (xs.map (.int .i64))
  z6 : w.frozen? ⟨b6, 0, none⟩ = false
  size : base ≤ w.heap.size

/-- one number more -/
theorem Ord.push {w0 : World} {bm b5 b6 base : Nat} {op k : Int} {xs : List Int} {w : World} (h : Ord w0 bm b5 b6 base op k xs w) (h1 : bm < b5) (h2 : b5 < b6) (h3 : b6 < base) {v v' : Value} {w1 : World} {o : Obj} {x : Int}
    (hv : w.cell? ⟨b6, 0, none⟩ = some v) (hown : w1.ownsRow base 3 1 v' (xs.length + 1) (xs.map (.int .i64) ++ [.int .i64 x])) (hg : (w.alloc o).grownBy w1 v.ownBlock) (how : w.ownsRow base 3 1 v xs.length (xs.map (.int .i64))) :
    Ord w0 bm b5 b6 base op k (xs ++ [x]) (w1.setCell ⟨b6, 0, none⟩ v') ∧ (∀ b, b < base → b ≠ b6 → (w1.setCell ⟨b6, 0, none⟩ v').heap[b]? = w.heap[b]?) ∧ w.heap.size ≤ (w1.setCell ⟨b6, 0, none⟩ v').heap.size := by
  have hs := h.size
  have hgs := hg.size
  simp only [World.size_alloc] at hgs
  have hlow : ∀ b, b < base → w1.heap[b]? = w.heap[b]? := by
    intro b hb
    rw [hg.block b (by simp; omega), Below.heap_alloc _ _ _ (by omega)]
    intro he
    have := (how.lt b he.symm).1
    omega
  have hlow2 : ∀ b, b < base → b ≠ b6 → (w1.setCell ⟨b6, 0, none⟩ v').heap[b]? = w.heap[b]? := fun b hb hne => (Below.heap_setCell _ _ _ _ hne).trans (hlow b hb)
  refine ⟨⟨?_, ?_, ?_, ⟨v', ?_, ?_⟩, ?_, ?_⟩, hlow2, by simp; omega⟩
  · have hk := h.kept
    exact ⟨hg.os.trans hk.os, hg.tape.trans hk.tape, hg.output.trans hk.output, by have := hk.size; simp; omega, fun b hb => (hlow2 b (by omega) (by omega)).trans (hk.block b hb)⟩
  · rw [World.cell?_of_block (w := w) (hlow2 bm (by omega) (by omega))]; exact h.cm
  · rw [World.cell?_of_block (w := w) (hlow2 b5 (by omega) (by omega))]; exact h.c5
  · exact World.cell?_setCell_same _ _ _ ((World.cell?_of_block (w := w) (hlow b6 (by omega))).trans hv)
  · have := ownsRow_setCell_below (a := ⟨b6, 0, none⟩) hown h3 v'
    simpa using this
  · have := World.frozen?_of_block (w := w) (a := ⟨b6, 0, none⟩) (hlow b6 (by omega))
    simp [this, h.z6]
  · simp; omega

set_option maxHeartbeats 1000000 in
theorem c20_d (w0 : World) (bm b5 b6 base bi : Nat) (op k : Int) (xs : List Int) (x : Int) (u : FrameMode) (w : World) (hl : xs.length ≤ 100) (hJ : Ord w0 bm b5 b6 base op k xs w) (h1 : bm < b5) (h2 : b5 < b6) (h3 : b6 < base) (hx : w.cell? ⟨bi, 0, none⟩ = some (.int .i64 x)) :
    CallsD Try.prog 20 #[.pointer (some ⟨b6, 0, none⟩), .pointer (some ⟨bi, 0, none⟩)] u w fun e u' w' => u' = u ∧ e = .returned (.tuple #[]) ∧ Ord w0 bm b5 b6 base op k (xs ++ [x]) w' ∧ (∀ b, b < base → b ≠ b6 → w'.heap[b]? = w.heap[b]?) ∧ w.heap.size ≤ w'.heap.size := by
  obtain ⟨v, hv, how⟩ := hJ.c6
  obtain ⟨i0, hi, hz0, hz1, hz2⟩ : ∃ i0, Try.prog.info? 3 = some i0 ∧ i0.zero = some (.int .i64 0) ∧ i0.size = 1 ∧ i0.bytes = 8 := info_parts (by kernel_rfl)
  have HI := Lib.hid (And.intro hi (And.intro hz0 (And.intro hz1 hz2)))
  clear hi hz0 hz1 hz2
  have HJ := Lib.hid hJ
  have HO := Lib.hid how
  have hsz := hJ.size
  have hz6 := hJ.z6
  have h6s : b6 < w.heap.size := by omega
  clear hJ how
  go_enter_d Try.func20, Try.ntmps20
  go_wp2_with (first
    | (at_builtin; refine wpList_append_own _ rfl _ _ 38 rfl base 3 i0 (.int .i64 0) 1 8 Try.underlying38 HI.out.1 HI.out.2.1 HI.out.2.2.1 HI.out.2.2.2 rfl (by decide) _ _ _ rfl (HO.out.alloc _) ⟨w.heap.size, 0, none⟩ 1 1 [.int .i64 x] rfl rfl ?c1 ?c2 ?c3 ?c4 ?c5 ?_)
    | fail)
  case c1 =>
    intro j u hj
    match j, hj with
    | 0, hj => simp at hj; subst hj; simp [Addr.add, go_sem]
  case c2 => intro u hu; simp at hu; subst hu; rfl
  case c3 => unfold maxLen; omega
  case c4 => omega
  case c5 => simp; omega
  intro v' w1 hown' hgrow _
  have HP := Lib.hid (HJ.out.push h1 h2 h3 hv hown' hgrow HO.out)
  obtain ⟨ao, nn, cq, rfl⟩ : ∃ ao nn cq, v' = .slice ao nn cq := by
    rcases hown'.2 with ⟨h, _⟩ | ⟨g, cap, cur, h, _⟩
    · exact ⟨_, _, _, h⟩
    · exact ⟨_, _, _, h⟩
  clear hown'
  have hne : some b6 ≠ v.ownBlock := fun he => by have := (HO.out.lt b6 he.symm).1; omega
  have hbk := hgrow.block b6 (by simp; omega) hne
  have h6 : w1.cell? ⟨b6, 0, none⟩ = some v := by
    rw [World.cell?_of_block (w := w.alloc (Obj.cells #[Value.int IntKind.i64 x] 3)) hbk, World.cell?_alloc_lt _ _ _ h6s]; exact hv
  have hzz : w1.frozen? ⟨b6, 0, none⟩ = false := by
    rw [World.frozen?_of_block (w := w.alloc (Obj.cells #[Value.int IntKind.i64 x] 3)) hbk]; simp [go_sem, hz6, h6s]
  clear hbk hne
  clear hgrow
  go_wp2_with fail
  exact ⟨rfl, .tuple #[], results_none rfl _ _ _, rfl, HP.out⟩

/-- the deferred closure over box b -/
abbrev dfr (b6 b : Nat) : Deferred := { target := .fn (.func 20) #[.pointer (some ⟨b6, 0, none⟩), .pointer (some ⟨b, 0, none⟩)], args := #[] }

/-- all that is deferred, run while the power goes -/
theorem leaves_all {fn : Func} {tmps : Array Value} (w0 : World) (bm b5 b6 base : Nat) (op k : Int) (h1 : bm < b5) (h2 : b5 < b6) (h3 : b6 < base) (ch : List PanicEntry) (hch : settle (.panicking ch) = .panicking ch) (R : Ending → World → Prop) :
    ∀ (bs : List (Nat × Int)) (xs : List Int) (w : World), xs.length + bs.length ≤ 100 → (∀ p ∈ bs, b6 < p.1 ∧ p.1 < base ∧ w.cell? ⟨p.1, 0, none⟩ = some (.int .i64 p.2)) → Ord w0 bm b5 b6 base op k xs w →
    (∀ w', Ord w0 bm b5 b6 base op k (xs ++ bs.map (·.2)) w' → (∀ b, b < base → b ≠ b6 → w'.heap[b]? = w.heap[b]?) → w.heap.size ≤ w'.heap.size → R (.panicked ch) w') →
    Leaves Try.prog fn tmps R (bs.map fun p => dfr b6 p.1) (.panicking ch) w := by
  intro bs
  induction bs with
  | nil => intro xs w _ _ hJ hR; exact hR w (by simpa using hJ) (fun _ _ _ => rfl) (Nat.le_refl _)
  | cons p bs ih =>
    intro xs w hlen hbs hJ hR
    simp only [List.length_cons] at hlen
    obtain ⟨hp1, hp2, hp3⟩ := hbs p (List.mem_cons_self ..)
    refine leaves_cons (f := 20) (args := #[.pointer (some ⟨b6, 0, none⟩), .pointer (some ⟨p.1, 0, none⟩)]) (by simp) (by simp [go_sem]) ?_
    refine (c20_d w0 bm b5 b6 base p.1 op k xs p.2 _ w (by omega) hJ h1 h2 h3 hp3).mono ?_
    rintro e u' w' ⟨rfl, rfl, hJ', hb', hs'⟩
    show Leaves _ _ _ _ _ (settle _) _
    rw [hch]
    refine ih (xs ++ [p.2]) w' (by simp; omega) (fun q hq => ?_) hJ' (fun w'' hJ'' hb'' hs'' => hR w'' (by simpa using hJ'') (fun b hb hne => (hb'' b hb hne).trans (hb' b hb hne)) (Nat.le_trans hs' hs''))
    obtain ⟨hq1, hq2, hq3⟩ := hbs q (List.mem_cons_of_mem _ hq)
    exact ⟨hq1, hq2, (World.cell?_of_block (w := w) (hb' q.1 hq2 (by omega))).trans hq3⟩

/-- the boxes of the loop over k rounds, the last one first -/
def downFrom : Nat → List Int
  | 0 => []
  | k + 1 => (k : Int) :: downFrom k

theorem downFrom_length (k : Nat) : (downFrom k).length = k := by
  induction k with
  | zero => rfl
  | succ k ih => simp [downFrom, ih]

structure Def (w0 : World) (bm b5 b6 : Nat) (op k : Int) (w : World) : Prop where
  kept : Below bm w0 w
  cm : w.cell? ⟨bm, 0, none⟩ = some (.int .i64 op)
  c5 : w.cell? ⟨b5, 0, none⟩ = some (.int .i64 k)
  c6 : w.cell? ⟨b6, 0, none⟩ = some (.slice none 0 0)
  z6 : w.frozen? ⟨b6, 0, none⟩ = false

theorem Def.below {w0 : World} {bm b5 b6 B : Nat} {op k : Int} {w w' : World} (h : Def w0 bm b5 b6 op k w) (h1 : bm < b5) (h2 : b5 < b6) (h3 : b6 < B) (hb : Below B w w') : Def w0 bm b5 b6 op k w' :=
  ⟨h.kept.trans (hb.mono (by omega)), (hb.cell (p := ⟨bm, 0, none⟩) (by show bm < B; omega)).trans h.cm, (hb.cell (p := ⟨b5, 0, none⟩) (by show b5 < B; omega)).trans h.c5, (hb.cell (p := ⟨b6, 0, none⟩) h3).trans h.c6, (hb.frozen (p := ⟨b6, 0, none⟩) h3).trans h.z6⟩

set_option maxHeartbeats 1000000 in
theorem c19_any (w0 : World) (bm b5 b6 : Nat) (op : Int) (k : Nat) (w : World) (hk : k ≤ 50) (h1 : bm < b5) (h2 : b5 < b6) (h3 : b6 < w.heap.size) (hJ : Def w0 bm b5 b6 op k w) :
    Calls Try.prog 19 #[.pointer (some ⟨b5, 0, none⟩), .pointer (some ⟨b6, 0, none⟩), .pointer (some ⟨bm, 0, none⟩)] w fun e w' => e = .panicked [{ v := crash op, recovered := false }] ∧
      ∃ base, w.heap.size ≤ base ∧ Ord w0 bm b5 b6 base op k (downFrom k) w' ∧ (∀ b, b < w.heap.size → b ≠ b6 → w'.heap[b]? = w.heap[b]?) ∧ w.heap.size ≤ w'.heap.size := by
  have hmf : ∀ (fn : Fn) (first cap : Array Value) (w : World), (Instr.makeFunc fn first cap).run Try.prog w = .ok (.func fn first cap) w := fun _ _ _ _ => rfl
  have H0 := Lib.hid hJ
  have hc5 := hJ.c5
  clear hJ
  go_enter_defers Try.func19, Try.ntmps19
  go_wp2_with fail
  refine wp_loop (fun a w' => ∃ (i : Nat) (bs : List (Nat × Int)) (u3 u6 u7 u8 u9 : Value), i ≤ k ∧ a = { tmps := #[.pointer (some ⟨b5, 0, none⟩), .pointer (some ⟨b6, 0, none⟩), .pointer (some ⟨bm, 0, none⟩), u3, .int .i64 k, .int .i64 i, u6, u7, u8, u9, undef, undef], defers := bs.map fun p => dfr b6 p.1 } ∧
      bs.map (·.2) = downFrom i ∧ (∀ p ∈ bs, w.heap.size ≤ p.1 ∧ p.1 < w'.heap.size ∧ w'.cell? ⟨p.1, 0, none⟩ = some (.int .i64 p.2)) ∧ Below w.heap.size w w')
    (fun a _ => k - (intOf (a.tmps.getD 5 undef)).toNat) ⟨0, [], _, _, _, _, _, by omega, rfl, rfl, by simp, Below.refl _ _⟩ ?_
  rintro a wr ⟨i, bs, u3, u6, u7, u8, u9, hik, rfl, hds, hbs, hq⟩
  have HDS := Lib.hid hds
  have HBS := Lib.hid hbs
  have hsq := hq.size
  clear hds hbs
  by_cases hlt : i < k
  · have hb : decide ((i : Int) < (k : Int)) = true := by simp; omega
    go_wp2_with fail
    refine ⟨⟨i + 1, (wr.heap.size, (i : Int)) :: bs, _, _, _, _, _, by omega, by rw [show ((i + 1 : Nat) : Int) = (i : Int) + 1 from by omega]; rfl, by simp [downFrom, HDS.out], ?_, hq.alloc hsq _⟩, by simp [intOf]; omega⟩
    intro p hp
    rcases List.mem_cons.1 hp with rfl | hp
    · exact ⟨hsq, by simp, by simp [go_sem]⟩
    · obtain ⟨hp1, hp2, hp3⟩ := HBS.out p hp
      exact ⟨hp1, by simp; omega, (World.cell?_alloc_lt _ _ _ hp2).trans hp3⟩
  · have hb : decide ((i : Int) < (k : Int)) = false := by simp; omega
    have hcm := (H0.out.below h1 h2 h3 hq).cm
    go_wp2_with fail
    refine (lose_any _ _).mono ?_
    rintro e w2 ⟨rfl, rfl⟩
    go_wp2_with fail
    obtain rfl : i = k := by omega
    have hlen : bs.length = i := by have := congrArg List.length HDS.out; simpa [downFrom_length] using this
    have hD := H0.out.below h1 h2 h3 hq
    refine leaves_all w0 bm b5 b6 wr.heap.size op i h1 h2 (by omega) _ rfl _ bs [] wr (by simp; omega) (fun p hp => ?_) ⟨hD.kept, hD.cm, hD.c5, ⟨_, hD.c6, World.ownsRow_nil _ _ _ _⟩, hD.z6, Nat.le_refl _⟩ (fun w' hJ' hb' hs' => ?_)
    · obtain ⟨hp1, hp2, hp3⟩ := HBS.out p hp
      exact ⟨by omega, hp2, hp3⟩
    · rw [List.nil_append, HDS.out] at hJ'
      exact ⟨rfl, wr.heap.size, hsq, hJ', fun b hb1 hb2 => (hb' b (by omega) hb2).trans (hq.block b hb1), by omega⟩
end Go.Proofs.Ytdkgjllpmfanlaa
