/- The walk of law03.alive, of ref03.Row. -/
import Derived.Test.YtdkgjllpmfanlaaGr
namespace Go.Proofs.Ytdkgjllpmfanlaa
open Go.RowKit

theorem KeepFrom.setCell {B0 : Nat} {w w1 : World} (h : KeepFrom B0 w w1) {p : Addr} (hp : p.block < B0) (u : Value) : KeepFrom B0 w (w1.setCell p u) :=
  ⟨h.os, h.tape, h.output, by simp; exact h.size, fun k h1 h2 => (Below.heap_setCell w1 p u k (by omega)).trans (h.block k h1 h2)⟩

theorem al1 (b : Nat) (w : World) (hc : w.cell? ⟨b, 0, none⟩ = some (.int .i64 0)) (hz : w.frozen? ⟨b, 0, none⟩ = false) :
    Calls Try.prog 34 #[.pointer (some ⟨b, 0, none⟩)] w fun e w' => e = .returned (.tuple #[]) ∧ w' = w.setCell ⟨b, 0, none⟩ (.int .i64 1) := by
  go_enter Try.func34, Try.ntmps34
  go_wp2
  exact ⟨rfl, .tuple #[], results_none rfl _ _ _, rfl, rfl⟩
theorem al2 (b : Nat) (w : World) (hc : w.cell? ⟨b, 0, none⟩ = some (.int .i64 1)) (hz : w.frozen? ⟨b, 0, none⟩ = false) :
    Calls Try.prog 35 #[.pointer (some ⟨b, 0, none⟩)] w fun e w' => e = .panicked [{ v := crash 7, recovered := false }] ∧ w' = w.setCell ⟨b, 0, none⟩ (.int .i64 11) := by
  go_enter Try.func35, Try.ntmps35
  go_wp2
  exact ⟨rfl, rfl, rfl⟩
theorem al3 (b : Nat) (w : World) (hc : w.cell? ⟨b, 0, none⟩ = some (.int .i64 11)) (hz : w.frozen? ⟨b, 0, none⟩ = false) :
    Calls Try.prog 36 #[.pointer (some ⟨b, 0, none⟩)] w fun e w' => e = .returned (.tuple #[]) ∧ w' = w.setCell ⟨b, 0, none⟩ (.int .i64 111) := by
  go_enter Try.func36, Try.ntmps36
  go_wp2
  exact ⟨rfl, .tuple #[], results_none rfl _ _ _, rfl, rfl⟩

def alFv (m : Nat) : Nat → Value
  | 0 => .func (.func 34) #[] #[.pointer (some ⟨m, 0, none⟩)]
  | 1 => .func (.func 35) #[] #[.pointer (some ⟨m, 0, none⟩)]
  | _ => .func (.func 36) #[] #[.pointer (some ⟨m, 0, none⟩)]
def alVal : Nat → Int
  | 0 => 0
  | 1 => 1
  | 2 => 11
  | _ => 111
def alOp : Nat → Option Int
  | 1 => some 7
  | _ => none

structure AlJ (w0 : World) (m i : Nat) (w : World) : Prop where
  kept : Below m w0 w
  row : ∀ j, j < 3 → w.cell? ⟨m + 1, j, none⟩ = some (alFv m j)
  cell : w.cell? ⟨m, 0, none⟩ = some (.int .i64 (alVal i))
  free : w.frozen? ⟨m, 0, none⟩ = false

theorem AlJ.below {w0 : World} {m i : Nat} {w w' : World} (h : AlJ w0 m i w) (hb : Below (m + 2) w w') : AlJ w0 m i w' :=
  ⟨h.kept.trans (hb.mono (by omega)), fun j hj => (hb.cell (p := ⟨m + 1, j, none⟩) (by simp)).trans (h.row j hj), (hb.cell (p := ⟨m, 0, none⟩) (by simp)).trans h.cell, (hb.frozen (p := ⟨m, 0, none⟩) (by simp)).trans h.free⟩

theorem AlJ.set {w0 : World} {m i : Nat} {w : World} (h : AlJ w0 m i w) (v : Int) (hv : v = alVal (i + 1)) : AlJ w0 m (i + 1) (w.setCell ⟨m, 0, none⟩ (.int .i64 v)) := by
  subst hv
  refine ⟨h.kept.setCell (p := ⟨m, 0, none⟩) (Nat.le_refl _) _, fun j hj => ?_, World.cell?_setCell_same _ _ _ h.cell, by simp [h.free]⟩
  rw [World.cell?_setCell_other _ _ _ _ (fun h => by injection h; omega)]; exact h.row j hj

theorem al_row (w0 : World) (m : Nat) (w : World) (hJ : AlJ w0 m 0 w) (hB : m + 2 ≤ w.heap.size) :
    Calls Try.prog 12 #[.slice (some ⟨m + 1, 0, none⟩) 3 3] w fun e w' => e = .returned (.tuple #[.int .i64 1, .agg #[.int .i64 7], .bool true]) ∧ KeepFrom (m + 2) w w' ∧ AlJ w0 m 2 w' := by
  have hen34 := enters_of (g := 34) Try.func34 (by decide) rfl #[.pointer (some ⟨m, 0, none⟩)]
  have hen35 := enters_of (g := 35) Try.func35 (by decide) rfl #[.pointer (some ⟨m, 0, none⟩)]
  have hen36 := enters_of (g := 36) Try.func36 (by decide) rfl #[.pointer (some ⟨m, 0, none⟩)]
  refine row_walk 3 (m + 1) 0 3 (alFv m) alOp (m + 2) (AlJ w0 m) (by decide) (fun i w h j hj => by simpa using h.row j hj) (fun i w w' h hb => h.below hb) ?_ w hJ hB
  intro i w hi hJ hB
  match i, hi with
  | 0, _ =>
    refine run_step 34 _ none hen34 w (AlJ w0 m 0) (AlJ w0 m 1) hB (fun _ _ h hb => h.below hb) (fun _ _ h hb => h.below hb) hJ ?_
    intro w hJ hB
    refine (al1 m w hJ.cell hJ.free).mono ?_
    rintro e w' ⟨rfl, rfl⟩
    exact ⟨rfl, (KeepFrom.refl _ _).setCell (by simp) _, hJ.set _ rfl⟩
  | 1, _ =>
    refine run_step 35 _ (some 7) hen35 w (AlJ w0 m 1) (AlJ w0 m 2) hB (fun _ _ h hb => h.below hb) (fun _ _ h hb => h.below hb) hJ ?_
    intro w hJ hB
    refine (al2 m w hJ.cell hJ.free).mono ?_
    rintro e w' ⟨rfl, rfl⟩
    exact ⟨rfl, (KeepFrom.refl _ _).setCell (by simp) _, hJ.set _ rfl⟩
  | 2, _ =>
    refine run_step 36 _ none hen36 w (AlJ w0 m 2) (AlJ w0 m 3) hB (fun _ _ h hb => h.below hb) (fun _ _ h hb => h.below hb) hJ ?_
    intro w hJ hB
    refine (al3 m w hJ.cell hJ.free).mono ?_
    rintro e w' ⟨rfl, rfl⟩
    exact ⟨rfl, (KeepFrom.refl _ _).setCell (by simp) _, hJ.set _ rfl⟩

theorem alive_any (w : World) : Calls Try.prog 10 #[] w fun e w' => e = .returned (.bool true) ∧ Below w.heap.size w w' := by
  go_enter Try.func10, Try.ntmps10
  go_wp2_with fail
  refine (al_row w w.heap.size _ ⟨?_, ?_, ?_, ?_⟩ ?_).mono ?_
  · exact ((Below.refl _ _).alloc (Nat.le_refl _) _).alloc (by simp) _
  · intro j hj
    rw [show w.heap.size + 1 = (w.alloc (Obj.cells #[Value.int IntKind.i64 0] 3)).heap.size from by simp]
    match j, hj with
    | 0, _ => simp [go_sem, alFv]
    | 1, _ => simp [go_sem, alFv]
    | 2, _ => simp [go_sem, alFv]
  · simp [go_sem, alVal]
  · simp [go_sem]
  · simp
  rintro e w1 ⟨rfl, hk, hJ⟩
  have hc := hJ.cell
  have hz := hJ.free
  have hs := hk.size
  simp only [World.size_alloc] at hs
  replace hs : w.heap.size < w1.heap.size := by omega
  replace hc : w1.cell? ⟨w.heap.size, 0, none⟩ = some (.int .i64 11) := hc
  go_wp2_with fail
  exact bodyPost_ret (v := .bool true) (by simp [results, Try.results10, go_sem]) rfl ⟨rfl, hJ.kept.alloc (by omega) _⟩
end Go.Proofs.Ytdkgjllpmfanlaa
