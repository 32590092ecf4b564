/- The walk of law03.GuardNested. -/
import Derived.Test.YtdkgjllpmfanlaaGb
namespace Go.Proofs.Ytdkgjllpmfanlaa
open Go.RowKit

theorem KeepFrom.alloc {B0 : Nat} {w w1 : World} (h : KeepFrom B0 w w1) (o : Obj) : KeepFrom B0 w (w1.alloc o) :=
  h.trans (KeepFrom.of_below ((Below.refl _ _).alloc (Nat.le_refl _) _))

/-- the closures, one in the other -/
def IsNest (bm b6 b7 B : Nat) (w : World) : Nat → Value → Prop
  | 0, v => v = .func (.func 16) #[] #[.pointer (some ⟨bm, 0, none⟩)]
  | k + 1, v => ∃ b u, v = .func (.func 17) #[] #[.pointer (some ⟨b, 0, none⟩), .pointer (some ⟨bm, 0, none⟩), .pointer (some ⟨b6, 0, none⟩), .pointer (some ⟨b7, 0, none⟩)] ∧ b7 < b ∧ b < B ∧ w.cell? ⟨b, 0, none⟩ = some u ∧ IsNest bm b6 b7 B w k u

theorem IsNest.same {bm b6 b7 B : Nat} {w w' : World} (h : ∀ b, b7 < b → b < B → w'.cell? ⟨b, 0, none⟩ = w.cell? ⟨b, 0, none⟩) : ∀ {k v}, IsNest bm b6 b7 B w k v → IsNest bm b6 b7 B w' k v := by
  intro k
  induction k with
  | zero => intro v hv; exact hv
  | succ k ih =>
    rintro v ⟨b, u, hv, h1, h2, h3, h4⟩
    exact ⟨b, u, hv, h1, h2, (h b h1 h2).trans h3, ih h4⟩
theorem IsNest.mono {bm b6 b7 B B' : Nat} {w : World} (hB : B ≤ B') : ∀ {k v}, IsNest bm b6 b7 B w k v → IsNest bm b6 b7 B' w k v := by
  intro k
  induction k with
  | zero => intro v hv; exact hv
  | succ k ih =>
    rintro v ⟨b, u, hv, h1, h2, h3, h4⟩
    exact ⟨b, u, hv, h1, by omega, h3, ih h4⟩

theorem IsNest.form {bm b6 b7 B : Nat} {w : World} {k : Nat} {v : Value} (h : IsNest bm b6 b7 B w k v) : ∃ g cap, v = .func (.func g) #[] cap ∧ Enters g cap := by
  cases k with
  | zero => exact ⟨16, _, h, enters_of Try.func16 (by decide) rfl _⟩
  | succ k => obtain ⟨b, u, hv, _⟩ := h; exact ⟨17, _, hv, enters_of Try.func17 (by decide) rfl _⟩

structure NestJ (w0 : World) (bm b6 b7 : Nat) (m x y : Int) (w : World) : Prop where
  kept : Below bm w0 w
  cm : w.cell? ⟨bm, 0, none⟩ = some (.int .i64 m)
  c6 : w.cell? ⟨b6, 0, none⟩ = some (.int .i64 x)
  c7 : w.cell? ⟨b7, 0, none⟩ = some (.int .i64 y)
  z6 : w.frozen? ⟨b6, 0, none⟩ = false
  z7 : w.frozen? ⟨b7, 0, none⟩ = false

theorem NestJ.below {w0 : World} {bm b6 b7 B : Nat} {m x y : Int} {w w' : World} (h : NestJ w0 bm b6 b7 m x y w) (h1 : bm < b6) (h2 : b6 < b7) (h3 : b7 < B) (hb : Below B w w') : NestJ w0 bm b6 b7 m x y w' :=
  ⟨h.kept.trans (hb.mono (by omega)), (hb.cell (p := ⟨bm, 0, none⟩) (by show bm < B; omega)).trans h.cm, (hb.cell (p := ⟨b6, 0, none⟩) (by show b6 < B; omega)).trans h.c6, (hb.cell (p := ⟨b7, 0, none⟩) h3).trans h.c7,
    (hb.frozen (p := ⟨b6, 0, none⟩) (by show b6 < B; omega)).trans h.z6, (hb.frozen (p := ⟨b7, 0, none⟩) h3).trans h.z7⟩
theorem NestJ.set6 {w0 : World} {bm b6 b7 : Nat} {m x y : Int} {w : World} (h : NestJ w0 bm b6 b7 m x y w) (h1 : bm < b6) (h2 : b6 < b7) (x' : Int) : NestJ w0 bm b6 b7 m x' y (w.setCell ⟨b6, 0, none⟩ (.int .i64 x')) :=
  ⟨h.kept.setCell (p := ⟨b6, 0, none⟩) (by show bm ≤ b6; omega) _, (World.cell?_setCell_other _ _ _ _ (fun e => by injection e; omega)).trans h.cm, World.cell?_setCell_same _ _ _ h.c6, (World.cell?_setCell_other _ _ _ _ (fun e => by injection e; omega)).trans h.c7,
    by simp [h.z6], by simp [h.z7]⟩
theorem NestJ.set7 {w0 : World} {bm b6 b7 : Nat} {m x y : Int} {w : World} (h : NestJ w0 bm b6 b7 m x y w) (h1 : bm < b6) (h2 : b6 < b7) (y' : Int) : NestJ w0 bm b6 b7 m x y' (w.setCell ⟨b7, 0, none⟩ (.int .i64 y')) :=
  ⟨h.kept.setCell (p := ⟨b7, 0, none⟩) (by show bm ≤ b7; omega) _, (World.cell?_setCell_other _ _ _ _ (fun e => by injection e; omega)).trans h.cm, (World.cell?_setCell_other _ _ _ _ (fun e => by injection e; omega)).trans h.c6, World.cell?_setCell_same _ _ _ h.c7,
    by simp [h.z6], by simp [h.z7]⟩

theorem c16_any (bm : Nat) (m : Int) (w : World) (hc : w.cell? ⟨bm, 0, none⟩ = some (.int .i64 m)) :
    Calls Try.prog 16 #[.pointer (some ⟨bm, 0, none⟩)] w fun e w' => e = .panicked [{ v := crash m, recovered := false }] ∧ w' = w := by
  go_enter Try.func16, Try.ntmps16
  go_wp2_with fail
  refine (lose_any _ _).mono ?_
  rintro e w2 ⟨rfl, rfl⟩
  go_wp2_with fail
  exact ⟨rfl, rfl, rfl⟩

set_option maxHeartbeats 1000000 in
theorem nest_calls (w0 : World) (bm b6 b7 B : Nat) (m : Int) (h1 : bm < b6) (h2 : b6 < b7) (h3 : b7 < B) : ∀ (k : Nat) (v : Value) (g : FuncId) (cap : Array Value) (w : World), k ≤ 50 → IsNest bm b6 b7 B w k v → v = .func (.func g) #[] cap → NestJ w0 bm b6 b7 m 0 0 w → B ≤ w.heap.size →
    Calls Try.prog g cap w fun e w' => e = endsAs (if k = 0 then some m else none) ∧ KeepFrom B w w' ∧ NestJ w0 bm b6 b7 m (if k = 0 then 0 else 1) k w' := by
  intro k
  induction k with
  | zero =>
    intro v g cap w _ hn hv hJ hB
    rw [IsNest, hv] at hn
    injection hn with h4 _ h5
    injection h4 with h4
    subst h4 h5
    refine (c16_any bm m w hJ.cm).mono ?_
    rintro e w' ⟨rfl, rfl⟩
    exact ⟨rfl, KeepFrom.refl _ _, hJ⟩
  | succ k ih =>
    intro v g cap w hk hn hv hJ hB
    obtain ⟨b, u, hn, hb1, hb2, hu, hn'⟩ := hn
    rw [hv] at hn
    injection hn with h4 _ h5
    injection h4 with h4
    subst h4 h5
    obtain ⟨g', cap', rfl, he⟩ := hn'.form
    have HR : Hid (Calls Try.prog 18 #[.func (.func g') #[] cap'] w fun e w' => e = toldAs (if k = 0 then some m else none) ∧ KeepFrom B w w' ∧ NestJ w0 bm b6 b7 m (if k = 0 then 0 else 1) k w') := Lib.hid (by
      refine run_step g' cap' (if k = 0 then some m else none) he w (fun w' => IsNest bm b6 b7 B w' k (.func (.func g') #[] cap') ∧ NestJ w0 bm b6 b7 m 0 0 w') (NestJ w0 bm b6 b7 m (if k = 0 then 0 else 1) k) hB
        (fun x y ⟨hx, hy⟩ hb => ⟨hx.same (fun c hc1 hc2 => hb.cell (p := ⟨c, 0, none⟩) hc2), hy.below h1 h2 h3 hb⟩) (fun x y hx hb => hx.below h1 h2 h3 hb) ⟨hn', hJ⟩ ?_
      intro w1 ⟨hN, hJ1⟩ hB1
      exact ih _ g' cap' w1 (by omega) hN rfl hJ1 hB1)
    clear ih hn' he hv
    go_enter Try.func17, Try.ntmps17
    go_wp2_with fail
    refine HR.out.mono ?_
    rintro e w1 ⟨rfl, hk1, hJ1⟩
    clear HR
    have HK := Lib.hid hk1
    have hs1 := hk1.size
    clear hk1
    have cm := hJ1.cm
    have c6 := hJ1.c6
    have c7 := hJ1.c7
    have z6 := hJ1.z6
    have z7 := hJ1.z7
    have HJ := Lib.hid hJ1
    clear hJ1 hJ
    have hl7 : b7 < w1.heap.size := by omega
    have hl6 : b6 < w1.heap.size := by omega
    have hlm : bm < w1.heap.size := by omega
    have hn67 : ¬ b6 = b7 := by omega
    by_cases h0 : k = 0
    · subst h0
      replace c6 : w1.cell? ⟨b6, 0, none⟩ = some (.int .i64 0) := c6
      replace c7 : w1.cell? ⟨b7, 0, none⟩ = some (.int .i64 0) := c7
      have HJ2 : Hid (NestJ w0 bm b6 b7 m 0 0 w1) := HJ
      clear HJ
      rw [show toldAs (if 0 = 0 then some m else none) = .returned (.tuple #[.agg #[.int .i64 m], .bool true]) from rfl]
      have c7' : ((w1.alloc (Obj.cells #[Value.int IntKind.i64 m] 28)).setCell ⟨b6, 0, none⟩ (.int .i64 1)).cell? ⟨b7, 0, none⟩ = some (.int .i64 0) := by
        rw [World.cell?_setCell_other _ _ _ _ (fun e => by injection e; omega), World.cell?_alloc_lt _ _ _ hl7]; exact c7
      go_wp2_with fail
      refine ⟨rfl, .tuple #[], results_none rfl _ _ _, rfl, ((HK.out.setCell (p := ⟨b6, 0, none⟩) (by show b6 < B; omega) _).setCell (p := ⟨b7, 0, none⟩) h3 _).alloc _, ?_⟩
      exact ((HJ2.out.set6 h1 h2 1).set7 h1 h2 1).below h1 h2 (B := w1.heap.size) hl7 ((Below.refl _ _).alloc (by simp) _)
    · have HE : Hid ((if k = 0 then some m else none) = none ∧ (if k = 0 then (0 : Int) else 1) = 1) := Lib.hid (by simp [h0])
      rw [HE.out.1]
      unfold toldAs
      rw [HE.out.2] at c6 HJ
      go_wp2_with fail
      refine ⟨rfl, .tuple #[], results_none rfl _ _ _, rfl, (HK.out.setCell (p := ⟨b7, 0, none⟩) h3 _).alloc _, ?_⟩
      exact (HJ.out.set7 h1 h2 _).below h1 h2 (B := w1.heap.size) hl7 ((Below.refl _ _).alloc (by simp) _)

theorem nest_run (w0 : World) (bm b6 b7 : Nat) (m : Int) (h1 : bm < b6) (h2 : b6 < b7) (k : Nat) (v : Value) (w : World) (h3 : b7 < w.heap.size) (hk : k ≤ 50) (hn : IsNest bm b6 b7 w.heap.size w k v) (hJ : NestJ w0 bm b6 b7 m 0 0 w) :
    Calls Try.prog 18 #[v] w fun e w' => e = toldAs (if k = 0 then some m else none) ∧ w.heap.size ≤ w'.heap.size ∧ NestJ w0 bm b6 b7 m (if k = 0 then 0 else 1) k w' := by
  obtain ⟨g, cap, rfl, he⟩ := hn.form
  refine (run_step g cap (if k = 0 then some m else none) he w (fun w' => IsNest bm b6 b7 w.heap.size w' k (.func (.func g) #[] cap) ∧ NestJ w0 bm b6 b7 m 0 0 w') (NestJ w0 bm b6 b7 m (if k = 0 then 0 else 1) k) (Nat.le_refl _)
    (fun x y ⟨hx, hy⟩ hb => ⟨hx.same (fun c hc1 hc2 => hb.cell (p := ⟨c, 0, none⟩) hc2), hy.below h1 h2 h3 hb⟩) (fun x y hx hb => hx.below h1 h2 h3 hb) ⟨hn, hJ⟩ ?_).mono (fun e w' ⟨a, b, c⟩ => ⟨a, b.size, c⟩)
  intro w1 ⟨hN, hJ1⟩ hB1
  exact nest_calls w0 bm b6 b7 w.heap.size m h1 h2 h3 k _ g cap w1 hk hN rfl hJ1 hB1

theorem mod50 (n : Int) : ∃ d : Nat, n % 50 = (d : Int) ∧ d < 50 := ⟨(n % 50).toNat, by omega, by omega⟩

set_option maxRecDepth 100000 in
set_option maxHeartbeats 4000000 in
theorem nested_any (n m : Int) (w : World) : Calls Try.prog 5 #[.int .i64 n, .int .i64 m] w fun e w' => e = .returned (.bool true) ∧ Below w.heap.size w w' := by
  go_enter Try.func5, Try.ntmps5
  go_wp2_with fail
  refine (alive_any _).mono ?_
  rintro e w1 ⟨rfl, hq⟩
  have hs1 := hq.size
  simp only [World.size_alloc] at hs1
  have h0 : NestJ w w.heap.size w1.heap.size (w1.heap.size + 1) m 0 0 ((w1.alloc (Obj.cells #[Value.int IntKind.i64 0] 3)).alloc (Obj.cells #[Value.int IntKind.i64 0] 3)) := by
    refine ⟨?_, ?_, ?_, ?_, ?_, ?_⟩
    · exact ((((Below.refl _ _).alloc (Nat.le_refl _) _).trans (hq.mono (by simp))).alloc (by omega) _).alloc (by simp; omega) _
    · rw [World.cell?_alloc_lt _ _ _ (by simp; omega), World.cell?_alloc_lt _ _ _ (by show w.heap.size < _; omega), hq.cell (p := ⟨w.heap.size, 0, none⟩) (by simp)]; simp [go_sem]
    · simp [go_sem]
    · simp [go_sem]
    · simp [go_sem]
    · simp [go_sem]
  have H0 := Lib.hid h0
  clear h0
  have HQ := Lib.hid hq
  clear hq
  by_cases hn0 : 0 < n
  · obtain ⟨d, hd, hd50⟩ := mod50 n
    go_wp2_with fail
    go_loopw [8, 19] (fun f i wr => ∃ k : Nat, i = .int .i64 k ∧ k ≤ d ∧ IsNest w.heap.size w1.heap.size (w1.heap.size + 1) wr.heap.size wr k f ∧ NestJ w w.heap.size w1.heap.size (w1.heap.size + 1) m 0 0 wr ∧ w1.heap.size + 2 ≤ wr.heap.size)
      (fun _ i _ => d - (intOf i).toNat)
    case atStart => exact ⟨0, rfl, by omega, rfl, H0.out, by simp⟩
    case round =>
      obtain ⟨k, rfl, hk, hN, hJ, hsz⟩ := hrel
      clear H0
      have HN := Lib.hid hN
      have HJ := Lib.hid hJ
      clear hN hJ
      by_cases hkd : k < d
      · have hkb : decide ((k : Int) < (d : Int)) = true := by simp; omega
        obtain ⟨g, cap, rfl, -⟩ := HN.out.form
        go_wp2_with fail
        go_roundw
        case rel =>
          refine ⟨k + 1, by go_num, by omega, ⟨wr.heap.size, .func (.func g) #[] cap, rfl, by omega, by simp, by simp [go_sem], ?_⟩, HJ.out.below (by omega) (by omega) (by omega) ((Below.refl _ _).alloc (Nat.le_refl _) _), by simp; omega⟩
          exact (HN.out.same (fun b hb1 hb2 => World.cell?_alloc_lt _ _ _ hb2)).mono (by simp)
        case measure => simp [intOf]; omega
      · have hkb : decide ((k : Int) < (d : Int)) = false := by simp; omega
        obtain rfl : k = d := by omega
        go_wp2_with fail
        refine (nest_run w w.heap.size w1.heap.size (w1.heap.size + 1) m (by omega) (by omega) k _ wr (by omega) (by omega) HN.out HJ.out).mono ?_
        rintro e w3 ⟨rfl, hs3, hJ3⟩
        have HJ3 := Lib.hid hJ3
        clear hJ3
        by_cases hk0 : k = 0
        · subst hk0
          rw [show toldAs (if 0 = 0 then some m else none) = .returned (.tuple #[.agg #[.int .i64 m], .bool true]) from rfl]
          have hcm := HJ3.out.cm
          have hkp := HJ3.out.kept
          have hsm : w.heap.size < w3.heap.size := by omega
          have hK := Lib.hid hkp
          clear hkp
          go_wp2_with fail
          exact bodyPost_ret (v := .bool true) (by simp [results, Try.results5, go_sem]) rfl ⟨rfl, hK.out.alloc (by omega) _⟩
        · have HE : Hid ((if k = 0 then some m else none) = none ∧ (if k = 0 then (0 : Int) else 1) = 1) := Lib.hid (by simp [hk0])
          have hk0b : ((k : Int) == 0) = false := by simpa using hk0
          have h6 := HJ3.out.c6
          have h7 := HJ3.out.c7
          have hK := Lib.hid HJ3.out.kept
          have hs6 : w1.heap.size < w3.heap.size := by omega
          have hs7 : w1.heap.size + 1 < w3.heap.size := by omega
          rw [HE.out.1, show toldAs none = .returned (.tuple #[.agg #[.int .i64 0], .bool false]) from rfl]
          rw [HE.out.2] at h6
          clear hk0
          go_wp2_with fail
          exact bodyPost_ret (v := .bool true) (by simp [results, Try.results5, go_sem]) rfl ⟨rfl, hK.out.alloc (by omega) _⟩
  · go_wp2_with fail
    go_loopw [8, 19] (fun f i wr => f = .func (.func 16) #[] #[.pointer (some ⟨w.heap.size, 0, none⟩)] ∧ i = .int .i64 0 ∧ wr = (w1.alloc (Obj.cells #[Value.int IntKind.i64 0] 3)).alloc (Obj.cells #[Value.int IntKind.i64 0] 3)) (fun _ _ _ => 0)
    case atStart => exact ⟨rfl, rfl, rfl⟩
    case round =>
      obtain ⟨rfl, rfl, rfl⟩ := hrel
      go_wp2_with fail
      refine (nest_run w w.heap.size w1.heap.size (w1.heap.size + 1) m (by omega) (by omega) 0 _ _ (by simp) (by omega) rfl H0.out).mono ?_
      rintro e w3 ⟨rfl, hs3, hJ3⟩
      simp only [World.size_alloc] at hs3
      have HJ3 := Lib.hid hJ3
      clear hJ3
      rw [show toldAs (if 0 = 0 then some m else none) = .returned (.tuple #[.agg #[.int .i64 m], .bool true]) from rfl]
      have hcm := HJ3.out.cm
      have hK := Lib.hid HJ3.out.kept
      have hsm : w.heap.size < w3.heap.size := by omega
      go_wp2_with fail
      exact bodyPost_ret (v := .bool true) (by simp [results, Try.results5, go_sem]) rfl ⟨rfl, hK.out.alloc (by omega) _⟩
end Go.Proofs.Ytdkgjllpmfanlaa
