/- The walk of guard.Row, over any row of functions of which one step is known each. -/
import Derived.Test.YtdkgjllpmfanlaaGw
namespace Go.Proofs.Ytdkgjllpmfanlaa
open Go.RowKit

theorem enters_of {g : FuncId} {fn : Func} {c : Code} (hf : Try.prog.funcs[g]? = some fn) (hname : (fn.name == "runtime.NumGoroutine") = false) (hb : fn.body = some c) (cap : Array Value) : Enters g cap := by
  intro w
  have h1 : fn.name ≠ "runtime.NumGoroutine" := by simpa using hname
  simp [callFunc, hf, h1, hb]

/-- from block B0 on nothing that was there has turned -/
structure KeepFrom (B0 : Nat) (w w' : World) : Prop where
  os : w'.os = w.os
  tape : w'.tape = w.tape
  output : w'.output = w.output
  size : w.heap.size ≤ w'.heap.size
  block : ∀ k, B0 ≤ k → k < w.heap.size → w'.heap[k]? = w.heap[k]?

theorem KeepFrom.refl (B0 : Nat) (w : World) : KeepFrom B0 w w := ⟨rfl, rfl, rfl, Nat.le_refl _, fun _ _ _ => rfl⟩
theorem KeepFrom.trans {B0 : Nat} {a b c : World} (h : KeepFrom B0 a b) (k : KeepFrom B0 b c) : KeepFrom B0 a c :=
  ⟨k.os.trans h.os, k.tape.trans h.tape, k.output.trans h.output, Nat.le_trans h.size k.size, fun i h1 h2 => (k.block i h1 (Nat.lt_of_lt_of_le h2 h.size)).trans (h.block i h1 h2)⟩
theorem KeepFrom.of_below {B0 : Nat} {w w' : World} (h : Below w.heap.size w w') : KeepFrom B0 w w' := ⟨h.os, h.tape, h.output, h.size, fun k _ h2 => h.block k h2⟩
theorem KeepFrom.mono {B0 B1 : Nat} {w w' : World} (h : KeepFrom B0 w w') (hB : B0 ≤ B1) : KeepFrom B1 w w' := ⟨h.os, h.tape, h.output, h.size, fun k h1 h2 => h.block k (Nat.le_trans hB h1) h2⟩
theorem KeepFrom.cell {B0 : Nat} {w w' : World} (h : KeepFrom B0 w w') {p : Addr} (h1 : B0 ≤ p.block) (h2 : p.block < w.heap.size) : w'.cell? p = w.cell? p := World.cell?_of_block (w := w) (h.block p.block h1 h2)
theorem KeepFrom.frozen {B0 : Nat} {w w' : World} (h : KeepFrom B0 w w') {p : Addr} (h1 : B0 ≤ p.block) (h2 : p.block < w.heap.size) : w'.frozen? p = w.frozen? p := World.frozen?_of_block (w := w) (h.block p.block h1 h2)

theorem KeepFrom.below {B0 : Nat} {w w1 w' : World} (h : KeepFrom B0 w w1) (hb : Below w.heap.size w1 w') : KeepFrom B0 w w' :=
  ⟨hb.os.trans h.os, hb.tape.trans h.tape, hb.output.trans h.output, Nat.le_trans h.size hb.size, fun k h1 h2 => (hb.block k h2).trans (h.block k h1 h2)⟩

theorem below_boxed (w : World) : Below w.heap.size w (boxed w) := ((Below.refl _ _).alloc (Nat.le_refl _) _).alloc (by simp) _
theorem size_boxed (w : World) : (boxed w).heap.size = w.heap.size + 2 := by simp

theorem KeepFrom.spares {B0 : Nat} {w w1 : World} (h : KeepFrom B0 (boxed w) w1) (hB : B0 ≤ w.heap.size) : Spares w w1 := by
  have hs := size_boxed w
  exact ⟨⟨h.os, h.tape, h.output, h.size, fun k hk => by omega⟩, h.block _ hB (by omega), h.block _ (by omega) (by omega)⟩

/-- how a function of a row ends -/
def endsAs : Option Int → Ending
  | none => .returned (.tuple #[])
  | some c => .panicked [{ v := crash c, recovered := false }]

/-- what Run tells of it -/
def toldAs : Option Int → Ending
  | none => .returned (.tuple #[.agg #[.int .i64 0], .bool false])
  | some c => .returned (.tuple #[.agg #[.int .i64 c], .bool true])

/-- a function under Run: its own step, and what is told -/
theorem run_step {B0 : Nat} (g : FuncId) (cap : Array Value) (o : Option Int) (he : Enters g cap) (w : World) (J0 J1 : World → Prop) (hB : B0 ≤ w.heap.size)
    (hs0 : ∀ w w', J0 w → Below B0 w w' → J0 w') (hs1 : ∀ w w', J1 w → Below B0 w w' → J1 w') (hJ : J0 w)
    (h : ∀ w, J0 w → B0 ≤ w.heap.size → Calls Try.prog g cap w fun e w1 => e = endsAs o ∧ KeepFrom B0 w w1 ∧ J1 w1) :
    Calls Try.prog 18 #[.func (.func g) #[] cap] w fun e w' => e = toldAs o ∧ KeepFrom B0 w w' ∧ J1 w' := by
  have hb := below_boxed w
  have hsz := size_boxed w
  have h0 := h (boxed w) (hs0 _ _ hJ (hb.mono hB)) (by omega)
  have fin : ∀ w' w1, KeepFrom B0 (boxed w) w1 ∧ J1 w1 → Below w.heap.size w1 w' → KeepFrom B0 w w' ∧ J1 w' := by
    intro w' w1 ⟨hk, hj⟩ hb'
    have hk1 : KeepFrom B0 w w1 := (KeepFrom.of_below hb).trans hk
    refine ⟨⟨hb'.os.trans hk1.os, hb'.tape.trans hk1.tape, hb'.output.trans hk1.output, Nat.le_trans hk1.size hb'.size, fun k h1 h2 => ?_⟩, hs1 _ _ hj (hb'.mono hB)⟩
    rw [hb'.block k h2]; exact hk1.block k h1 h2
  cases o with
  | none =>
    refine (run_ret g cap he w (fun w1 => KeepFrom B0 (boxed w) w1 ∧ J1 w1) (h0.mono fun e w1 ⟨h1, h2, h3⟩ => ⟨h1, h2.spares hB, h2, h3⟩)).mono ?_
    rintro e w' ⟨rfl, w1, hR, hb'⟩
    exact ⟨rfl, fin w' w1 hR hb'⟩
  | some c =>
    refine (run_crash g cap c he w (fun w1 => KeepFrom B0 (boxed w) w1 ∧ J1 w1) (h0.mono fun e w1 ⟨h1, h2, h3⟩ => ⟨h1, h2.spares hB, h2, h3⟩)).mono ?_
    rintro e w' ⟨rfl, w1, hR, hb'⟩
    exact ⟨rfl, fin w' w1 hR hb'⟩

/-- the first that stops -/
def firstStop (op : Nat → Option Int) : Nat → Nat → Option (Nat × Int)
  | _, 0 => none
  | i, r + 1 => match op i with
    | some c => some (i, c)
    | none => firstStop op (i + 1) r

def rowTold (n : Nat) : Option (Nat × Int) → Ending
  | some (i, c) => .returned (.tuple #[.int .i64 i, .agg #[.int .i64 c], .bool true])
  | none => .returned (.tuple #[.int .i64 n, .agg #[.int .i64 0], .bool false])
def rowCalled (n : Nat) : Option (Nat × Int) → Nat
  | some (i, _) => i + 1
  | none => n

set_option maxRecDepth 100000 in
set_option maxHeartbeats 1000000 in
theorem row_walk (n b off cp : Nat) (fv : Nat → Value) (op : Nat → Option Int) (B0 : Nat) (J : Nat → World → Prop) (hn : (n : Int) ≤ 140737488351232)
    (hcell : ∀ i w, J i w → ∀ j, j < n → w.cell? ⟨b, off + j, none⟩ = some (fv j))
    (hstab : ∀ i w w', J i w → Below B0 w w' → J i w')
    (hstep : ∀ i w, i < n → J i w → B0 ≤ w.heap.size → Calls Try.prog 18 #[fv i] w fun e w' => e = toldAs (op i) ∧ KeepFrom B0 w w' ∧ J (i + 1) w')
    (w : World) (hJ : J 0 w) (hB : B0 ≤ w.heap.size) :
    Calls Try.prog 12 #[.slice (some ⟨b, off, none⟩) n cp] w fun e w' => e = rowTold n (firstStop op 0 n) ∧ KeepFrom B0 w w' ∧ J (rowCalled n (firstStop op 0 n)) w' := by
  have HC := Lib.hid hcell
  have HS := Lib.hid hstab
  have HT := Lib.hid hstep
  clear hcell hstab hstep
  go_enter Try.func12, Try.ntmps12
  go_wp2_with fail
  go_loopw [11] (fun i wr => ∃ j : Nat, i = .int .i64 j ∧ j ≤ n ∧ firstStop op j (n - j) = firstStop op 0 n ∧ KeepFrom B0 (w.alloc (.cells #[.int .i64 0] 28)) wr ∧ J j wr) (fun i _ => n - (intOf i).toNat)
  case atStart => exact ⟨0, rfl, by omega, rfl, KeepFrom.refl _ _, HS.out _ _ _ hJ ((Below.refl _ _).alloc hB _)⟩
  case round =>
    obtain ⟨j, rfl, hj, hf, hk, hJj⟩ := hrel
    have HF := Lib.hid hf
    have HJ := Lib.hid hJj
    clear hf hJj
    by_cases hlt : j < n
    · have hcj := HC.out _ _ HJ.out j hlt
      have hjb : decide ((j : Int) < (n : Int)) = true := by simp; omega
      go_wp2_with fail
      have hsz := hk.size
      simp only [World.size_alloc] at hsz
      refine (HT.out j wr hlt HJ.out (by omega)).mono ?_
      rintro e w2 ⟨rfl, hk2, hJ2⟩
      have hkk := hk.trans hk2
      have cr : w2.cell? ⟨w.heap.size, 0, none⟩ = some (.int .i64 0) := by
        rw [hkk.cell hB (by simp)]; simp [go_sem]
      have zr : w2.frozen? ⟨w.heap.size, 0, none⟩ = false := by
        rw [hkk.frozen hB (by simp)]; simp [go_sem]
      have hsz2 : w.heap.size < w2.heap.size := by have := hkk.size; simp at this; omega
      have HJ2 := Lib.hid hJ2
      clear hJ2
      rcases ho : op j with _ | c
      · have HF2 : Hid (firstStop op (j + 1) (n - (j + 1)) = firstStop op 0 n) := by
          have := HF.out
          rw [show n - j = (n - (j + 1)) + 1 from by omega, firstStop, ho] at this
          exact this
        clear HF ho
        unfold toldAs
        go_wp2_with fail
        go_roundw
        case rel => exact ⟨j + 1, by go_num, by omega, HF2.out, hkk.trans (KeepFrom.of_below ((Below.refl _ _).alloc (Nat.le_refl _) _)), HS.out _ _ _ HJ2.out ((Below.refl _ _).alloc (by omega) _)⟩
        case measure => simp [intOf]; omega
      · have HF2 : Hid (firstStop op 0 n = some (j, c)) := by
          have := HF.out
          rw [show n - j = (n - (j + 1)) + 1 from by omega, firstStop, ho] at this
          exact this.symm
        clear HF ho
        have hkw : KeepFrom B0 w w2 := (KeepFrom.of_below ((Below.refl _ _).alloc (Nat.le_refl _) _)).trans hkk
        unfold toldAs
        go_wp2_with fail
        go_region
        go_wp2_with fail
        have hf2 := HF2.out
        have hb : ∀ B, B ≤ w.heap.size → Below B w2 (((w2.setCell ⟨w.heap.size, 0, none⟩ (.int .i64 c)).alloc (.cells #[.int .i64 c] 28)).drew) := fun B hB' =>
          (((Below.refl _ _).setCell (p := ⟨w.heap.size, 0, none⟩) hB' _).alloc (by simp; omega) _).drew
        have e0 : ((w2.setCell ⟨w.heap.size, 0, none⟩ (.int .i64 c)).alloc (.cells #[.int .i64 c] 28)).cell? ⟨w.heap.size, 0, none⟩ = some (.int .i64 c) :=
          (World.cell?_alloc_lt _ _ _ (by simp; omega)).trans (World.cell?_setCell_same w2 ⟨w.heap.size, 0, none⟩ (.int .i64 c) cr)
        exact bodyPost_ret (v := .tuple #[.int .i64 j, .agg #[.int .i64 c], .bool true]) (by simp [results, Try.results12, go_sem, e0]) rfl
          ⟨by rw [hf2]; rfl, hkw.below (hb _ (Nat.le_refl _)), by rw [hf2]; exact HS.out _ _ _ HJ2.out (hb _ hB)⟩
    · have hjb : decide ((j : Int) < (n : Int)) = false := by simp; omega
      have cr : wr.cell? ⟨w.heap.size, 0, none⟩ = some (.int .i64 0) := by
        rw [hk.cell hB (by simp)]; simp [go_sem]
      have zr : wr.frozen? ⟨w.heap.size, 0, none⟩ = false := by
        rw [hk.frozen hB (by simp)]; simp [go_sem]
      have hjn : j = n := by omega
      have HF2 : Hid (firstStop op 0 n = none) := by
        have := HF.out
        rw [hjn, Nat.sub_self, firstStop] at this
        exact this.symm
      have HJn := HJ
      rw [hjn] at HJn
      have hkw : KeepFrom B0 w wr := (KeepFrom.of_below ((Below.refl _ _).alloc (Nat.le_refl _) _)).trans hk
      clear HF hjn HJ
      go_wp2_with fail
      have hf2 := HF2.out
      have hb : ∀ B, B ≤ w.heap.size → Below B wr (wr.setCell ⟨w.heap.size, 0, none⟩ (.int .i64 0)) := fun B hB' =>
        (Below.refl _ _).setCell (p := ⟨w.heap.size, 0, none⟩) hB' _
      have e0 := World.cell?_setCell_same wr ⟨w.heap.size, 0, none⟩ (.int .i64 0) cr
      exact bodyPost_ret (v := .tuple #[.int .i64 n, .agg #[.int .i64 0], .bool false]) (by simp [results, Try.results12, go_sem, e0]) rfl
        ⟨by rw [hf2]; rfl, hkw.below (hb _ (Nat.le_refl _)), by rw [hf2]; exact HS.out _ _ _ HJn.out (hb _ hB)⟩
end Go.Proofs.Ytdkgjllpmfanlaa
