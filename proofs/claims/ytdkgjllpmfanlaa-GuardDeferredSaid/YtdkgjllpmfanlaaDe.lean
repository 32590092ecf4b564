/- The walk of law03.GuardDeferred. -/
import Derived.Test.YtdkgjllpmfanlaaDf
namespace Go.Proofs.Ytdkgjllpmfanlaa
open Go.RowKit

set_option maxHeartbeats 1000000 in
theorem run_crash_fine (g : FuncId) (cap : Array Value) (n : Int) (he : Enters g cap) (w : World) (R : World → Prop)
    (h : Calls Try.prog g cap (boxed w) fun e w1 => e = .panicked [{ v := crash n, recovered := false }] ∧ Spares w w1 ∧ R w1) :
    Calls Try.prog 18 #[.func (.func g) #[] cap] w fun e w' => e = .returned (.tuple #[.agg #[.int .i64 n], .bool true]) ∧ ∃ w1 w2, R w1 ∧ Below w1.heap.size w1 w2 ∧ w' = (w2.setCell ⟨w.heap.size, 0, none⟩ (.int .i64 n)).setCell ⟨w.heap.size + 1, 0, none⟩ (.bool true) := by
  have hmf : ∀ (fn : Fn) (first cap : Array Value) (w : World), (Instr.makeFunc fn first cap).run Try.prog w = .ok (.func fn first cap) w := fun _ _ _ _ => rfl
  have hnil := func_nil g cap
  have hen : ∀ w, (callFunc g cap).run Try.prog w = .ok (.enter g cap) w := he
  have H := Lib.hid h
  clear h he
  go_enter_defers Try.func18, Try.ntmps18
  go_wp2_with fail
  refine H.out.mono ?_
  rintro e w1 ⟨rfl, hsp, hR⟩
  obtain ⟨c0, c1, z0, z1, hsz⟩ := hsp.cells
  refine leaves_cons (f := 37) (args := #[.pointer (some ⟨w.heap.size, 0, none⟩), .pointer (some ⟨w.heap.size + 1, 0, none⟩)]) (by simp) (by simp [go_sem]) ?_
  refine (runD_crash _ _ n [] _ _ w1 (by omega) (by omega) (by omega) c0 c1 z0 z1).mono ?_
  rintro e u' w'' ⟨rfl, rfl, w2, hq, rfl⟩
  rw [← hq.cell (p := ⟨w.heap.size, 0, none⟩) (by show w.heap.size < _; omega)] at c0
  rw [← hq.cell (p := ⟨w.heap.size + 1, 0, none⟩) (by show w.heap.size + 1 < _; omega)] at c1
  obtain ⟨e0, e1⟩ := two_set (.int .i64 n) (.bool true) c0 c1
  exact ⟨.tuple #[.agg #[.int .i64 n], .bool true], by simp [results, Try.results18, go_sem, e0, e1], rfl, w1, w2, hR, hq, rfl⟩

theorem Ord.below {w0 : World} {bm b5 b6 base : Nat} {op k : Int} {xs : List Int} {w w' : World} (h : Ord w0 bm b5 b6 base op k xs w) (h1 : bm < b5) (h2 : b5 < b6) (h3 : b6 < base) (hb : Below w.heap.size w w') : Ord w0 bm b5 b6 base op k xs w' := by
  have hs := h.size
  obtain ⟨v, hv, how⟩ := h.c6
  exact ⟨h.kept.trans (hb.mono (by omega)), (hb.cell (p := ⟨bm, 0, none⟩) (by show bm < _; omega)).trans h.cm, (hb.cell (p := ⟨b5, 0, none⟩) (by show b5 < _; omega)).trans h.c5,
    ⟨v, (hb.cell (p := ⟨b6, 0, none⟩) (by show b6 < _; omega)).trans hv, how.kept (row := none) ⟨hb.os, hb.tape, hb.output, hb.size, fun k hk _ => hb.block k hk⟩ (by cases hx : v.ownBlock <;> simp)⟩,
    (hb.frozen (p := ⟨b6, 0, none⟩) (by show b6 < _; omega)).trans h.z6, by have := hb.size; omega⟩

theorem Ord.set {w0 : World} {bm b5 b6 base : Nat} {op k : Int} {xs : List Int} {w : World} (h : Ord w0 bm b5 b6 base op k xs w) (h1 : bm < b5) (h2 : b5 < b6) {p : Addr} (hp : b6 < p.block) (hpb : p.block < base) (u : Value) : Ord w0 bm b5 b6 base op k xs (w.setCell p u) := by
  obtain ⟨v, hv, how⟩ := h.c6
  have hne : ∀ b, b ≤ b6 → (⟨b, 0, none⟩ : Addr) ≠ p := fun b hb e => by rw [← e] at hp; exact absurd hp (by simp; omega)
  exact ⟨h.kept.setCell (by omega) _, (World.cell?_setCell_other _ _ _ _ (hne bm (by omega)).symm).trans h.cm, (World.cell?_setCell_other _ _ _ _ (hne b5 (by omega)).symm).trans h.c5,
    ⟨v, (World.cell?_setCell_other _ _ _ _ (hne b6 (by omega)).symm).trans hv, ownsRow_setCell_below how hpb u⟩, by simp [h.z6], by simp; exact h.size⟩

theorem downFrom_get (k j : Nat) (h : j < k) : (downFrom k)[j]? = some ((k : Int) - 1 - j) := by
  induction k generalizing j with
  | zero => omega
  | succ k ih =>
    cases j with
    | zero => simp [downFrom]
    | succ j => simp only [downFrom, List.getElem?_cons_succ]; rw [ih j (by omega)]; congr 1; omega

/-- the order, behind all: where its row lies, and its cells -/
theorem Ord.row {w0 : World} {bm b5 b6 base : Nat} {op k : Int} {xs : List Int} {w : World} (h : Ord w0 bm b5 b6 base op k xs w) (hx : 0 < xs.length) :
    ∃ g cp, w.cell? ⟨b6, 0, none⟩ = some (.slice (some ⟨g, 0, none⟩) xs.length cp) ∧ ∀ j x, xs[j]? = some x → w.cell? ⟨g, j, none⟩ = some (.int .i64 x) := by
  obtain ⟨v, hv, how⟩ := h.c6
  rcases how.2 with ⟨_, hn⟩ | ⟨g, cap, cur, rfl, _⟩
  · omega
  · refine ⟨g, cap, hv, fun j x hj => ?_⟩
    have := how.cells (g := g) rfl j (.int .i64 x) (by simp [hj])
    rw [Addr.add_lit, Nat.zero_add] at this
    exact this

/-- the guarded run of it -/
theorem def_run (w0 : World) (bm b5 b6 : Nat) (op : Int) (k : Nat) (w : World) (hk : k ≤ 50) (h1 : bm < b5) (h2 : b5 < b6) (h3 : b6 < w.heap.size) (hJ : Def w0 bm b5 b6 op k w) :
    Calls Try.prog 18 #[.func (.func 19) #[] #[.pointer (some ⟨b5, 0, none⟩), .pointer (some ⟨b6, 0, none⟩), .pointer (some ⟨bm, 0, none⟩)]] w fun e w' => e = .returned (.tuple #[.agg #[.int .i64 op], .bool true]) ∧
      ∃ base, b6 < base ∧ Ord w0 bm b5 b6 base op k (downFrom k) w' := by
  have hsz : (boxed w).heap.size = w.heap.size + 2 := by simp
  have hD := hJ.below h1 h2 h3 (below_boxed w)
  refine (run_crash_fine 19 _ op (enters_of Try.func19 (by decide) rfl _) w (fun w' => ∃ base, w.heap.size + 2 ≤ base ∧ Ord w0 bm b5 b6 base op k (downFrom k) w') ?_).mono ?_
  · refine (c19_any w0 bm b5 b6 op k (boxed w) hk h1 h2 (by omega) hD).mono ?_
    rintro e w1 ⟨rfl, base, hb, hO, hsame, hs⟩
    have h4 := hO.kept
    have h5 := hD.kept
    refine ⟨rfl, ⟨⟨h4.os.trans h5.os.symm, h4.tape.trans h5.tape.symm, h4.output.trans h5.output.symm, hs, fun k hk => by omega⟩, hsame _ (by omega) (by omega), hsame _ (by omega) (by omega)⟩, base, by omega, hO⟩
  · rintro e w' ⟨rfl, w1, w2, ⟨base, hb, hO⟩, hq, rfl⟩
    refine ⟨rfl, base, by omega, ?_⟩
    exact ((hO.below h1 h2 (by omega) hq).set h1 h2 (p := ⟨w.heap.size, 0, none⟩) h3 (by show w.heap.size < base; omega) _).set h1 h2 (p := ⟨w.heap.size + 1, 0, none⟩) (by show b6 < w.heap.size + 1; omega) (by show w.heap.size + 1 < base; omega) _

theorem mod40 (n : Int) : ∃ d : Nat, n % 40 = (d : Int) ∧ d < 40 := ⟨(n % 40).toNat, by omega, by omega⟩

set_option maxRecDepth 100000 in
set_option maxHeartbeats 4000000 in
theorem deferred_any (n op : Int) (w : World) (hn : 0 ≤ n ∧ n ≤ 255) : Calls Try.prog 6 #[.int .u8 n, .int .i64 op] w fun e w' => e = .returned (.bool true) ∧ Below w.heap.size w w' := by
  obtain ⟨d, hd, hd40⟩ := mod40 n
  go_enter Try.func6, Try.ntmps6
  go_wp2_with fail
  refine (alive_any _).mono ?_
  rintro e w1 ⟨rfl, hq⟩
  have hs1 := hq.size
  simp only [World.size_alloc] at hs1
  have HQ := Lib.hid hq
  clear hq
  go_wp2_with fail
  refine (def_run w w.heap.size w1.heap.size (w1.heap.size + 1) op d _ (by omega) (by omega) (by omega) (by simp) ⟨?_, ?_, ?_, ?_, ?_⟩).mono ?_
  · exact ((((Below.refl _ _).alloc (Nat.le_refl _) _).trans (HQ.out.mono (by simp))).alloc (by omega) _).alloc (by simp; omega) _
  · rw [World.cell?_alloc_lt _ _ _ (by simp; omega), World.cell?_alloc_lt _ _ _ (by show w.heap.size < _; omega), HQ.out.cell (p := ⟨w.heap.size, 0, none⟩) (by simp)]; simp [go_sem]
  · simp [go_sem]
  · simp [go_sem]
  · simp [go_sem]
  rintro e w2 ⟨rfl, base, hb, hO⟩
  obtain ⟨i0, hi, hz0, hz1, hz2⟩ : ∃ i0, Try.prog.info? 3 = some i0 ∧ i0.zero = some (.int .i64 0) ∧ i0.size = 1 ∧ i0.bytes = 8 := info_parts (by kernel_rfl)
  have HI := Lib.hid (And.intro hi (And.intro hz0 (And.intro hz1 hz2)))
  clear hi hz0 hz1 hz2
  have hO2 := hO.below (by omega) (by omega) hb ((Below.refl _ _).alloc (Nat.le_refl _) (.cells #[.int .i64 op] 28))
  obtain ⟨v, hv0, how0⟩ := hO.c6
  have hbs := hO.size
  have HO2 := Lib.hid hO2
  have HW := Lib.hid how0
  have hz6 := hO.z6
  clear hO2 hO how0
  have h6s : w1.heap.size + 1 < w2.heap.size := by omega
  have hv2 : (w2.alloc (.cells #[.int .i64 op] 28)).cell? ⟨w1.heap.size + 1, 0, none⟩ = some v := (World.cell?_alloc_lt _ _ _ h6s).trans hv0
  have hl := downFrom_length d
  rw [hl] at HW
  go_wp2_with (first
    | (at_builtin; refine wpList_append_own _ rfl _ _ 38 rfl base 3 i0 (.int .i64 0) 1 8 Try.underlying38 HI.out.1 HI.out.2.1 HI.out.2.2.1 HI.out.2.2.2 rfl (by decide) _ _ _ rfl ((HW.out.alloc _).alloc _) ⟨w2.heap.size + 1, 0, none⟩ 1 1 [.int .i64 (-1)] rfl rfl ?c1 ?c2 ?c3 ?c4 ?c5 ?_)
    | fail)
  case c1 =>
    intro j u hj
    match j, hj with
    | 0, hj => simp at hj; subst hj; simp [Addr.add, go_sem]
  case c2 => intro u hu; simp at hu; subst hu; rfl
  case c3 => unfold maxLen; omega
  case c4 => omega
  case c5 => simp; omega
  intro v' w3 hown' hgrow _
  have hne7 : some w2.heap.size ≠ v.ownBlock := fun he => by have := (HW.out.lt _ he.symm).2; omega
  have hne : some (w1.heap.size + 1) ≠ v.ownBlock := fun he => by have := (HW.out.lt _ he.symm).1; omega
  have h7 : w3.cell? ⟨w2.heap.size, 0, none⟩ = some (.int .i64 op) := by
    rw [World.cell?_of_block (hgrow.block w2.heap.size (by simp only [World.size_alloc]; omega) hne7), World.cell?_alloc_lt _ _ _ (by simp)]; simp [go_sem]
  have hp := HO2.out.push (by omega) (by omega) hb hv2 (by rw [hl]; exact hown') hgrow (by rw [hl]; exact HW.out.alloc _)
  obtain ⟨ao, nn, cq, rfl⟩ : ∃ ao nn cq, v' = .slice ao nn cq := by
    rcases hown'.2 with ⟨h, _⟩ | ⟨g, cap, cur, h, _⟩
    · exact ⟨_, _, _, h⟩
    · exact ⟨_, _, _, h⟩
  have h6 : w3.cell? ⟨w1.heap.size + 1, 0, none⟩ = some v := by
    rw [World.cell?_of_block (hgrow.block (w1.heap.size + 1) (by simp; omega) hne), World.cell?_alloc_lt _ _ _ (by simp; omega)]; exact hv2
  have hzz : w3.frozen? ⟨w1.heap.size + 1, 0, none⟩ = false := by
    rw [World.frozen?_of_block (hgrow.block (w1.heap.size + 1) (by simp only [World.size_alloc]; omega) hne), World.frozen?_of_block (Below.heap_alloc _ _ _ (by simp; omega)), World.frozen?_of_block (Below.heap_alloc _ _ _ h6s)]; exact hz6
  clear hgrow hown' hne7 hne
  have hk := hp.1.kept
  obtain ⟨g, cp, hrow, hcells⟩ := hp.1.row (by simp)
  have hm := hp.1.cm
  have h5 := hp.1.c5
  have h7' : (w3.setCell ⟨w1.heap.size + 1, 0, none⟩ (.slice ao nn cq)).cell? ⟨w2.heap.size, 0, none⟩ = some (.int .i64 op) :=
    (World.cell?_setCell_other _ _ _ _ (fun e => by injection e; omega)).trans h7
  rw [List.length_append, hl, show [(-1 : Int)].length = 1 from rfl] at hrow
  have hlast := hcells d (-1) (by rw [List.getElem?_append_right (by omega), hl]; simp)
  have HC : Hid (∀ j, j < d → (w3.setCell ⟨w1.heap.size + 1, 0, none⟩ (.slice ao nn cq)).cell? ⟨g, j, none⟩ = some (.int .i64 ((d : Int) - 1 - j))) := Lib.hid (fun j hj => hcells j _ (by rw [List.getElem?_append_left (by omega)]; exact downFrom_get d j hj))
  have HK := Lib.hid hk
  clear hp hcells hk h7
  obtain ⟨W, hW⟩ : ∃ W : World, W = w3.setCell ⟨w1.heap.size + 1, 0, none⟩ (.slice ao nn cq) := ⟨_, rfl⟩
  go_wp2_with fail
  rw [← hW] at HC HK hrow hm h5 h7' hlast ⊢
  clear h6 hzz hlast h7' hm hv2 hv0 hW
  go_loopw [9, 46] (fun x i w' => ∃ j : Nat, i = .int .i64 j ∧ j ≤ d ∧ Below W.heap.size W w') (fun _ i _ => d - (intOf i).toNat)
  case atStart => exact ⟨0, rfl, by omega, Below.refl _ _⟩
  case round =>
    obtain ⟨j, rfl, hj, hqw⟩ := hrel
    rw [← hqw.cell (World.block_lt_of_cell? W _ h5)] at h5
    rw [← hqw.cell (World.block_lt_of_cell? W _ hrow)] at hrow
    by_cases hlt : j < d
    · have hjb : decide ((j : Int) < (d : Int)) = true := by simp; omega
      have hc := HC.out j hlt
      rw [← hqw.cell (World.block_lt_of_cell? W _ hc)] at hc
      go_wp2_with fail
      go_region
      go_wp2_with fail
      go_roundw
      case rel => exact ⟨j + 1, by go_num, by omega, hqw.drew⟩
      case measure => simp [intOf]; omega
    · have hjb : decide ((j : Int) < (d : Int)) = false := by simp; omega
      have hkq := HK.out.trans (hqw.mono HK.out.size)
      go_wp2_with fail
      exact bodyPost_ret (v := .bool true) (by simp [results, Try.results6, go_sem]) rfl ⟨rfl, hkq⟩
end Go.Proofs.Ytdkgjllpmfanlaa
