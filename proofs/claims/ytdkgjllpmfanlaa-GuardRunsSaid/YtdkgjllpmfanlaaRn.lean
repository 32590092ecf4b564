/- The walk of law03.GuardRuns. -/
import Derived.Test.YtdkgjllpmfanlaaDo
namespace Go.Proofs.Ytdkgjllpmfanlaa
open Go.RowKit

/-- f -/
abbrev fCap (m b : Nat) : Array Value := #[.pointer (some ⟨b + 1, 0, none⟩), .pointer (some ⟨b, 0, none⟩), .pointer (some ⟨m + 2, 0, none⟩), .pointer (some ⟨m, 0, none⟩)]

structure RunJ (w0 : World) (m b : Nat) (op e : Int) (lose : Bool) (x y : Int) (w : World) : Prop where
  kept : Below m w0 w
  cop : w.cell? ⟨m, 0, none⟩ = some (.int .i64 op)
  ce : w.cell? ⟨m + 1, 0, none⟩ = some (.int .u8 e)
  cl : w.cell? ⟨m + 2, 0, none⟩ = some (.bool lose)
  cx : w.cell? ⟨b, 0, none⟩ = some (.int .i64 x)
  cy : w.cell? ⟨b + 1, 0, none⟩ = some (.int .i64 y)
  cf : w.cell? ⟨b + 2, 0, none⟩ = some (.func (.func 21) #[] (fCap m b))
  zx : w.frozen? ⟨b, 0, none⟩ = false
  zy : w.frozen? ⟨b + 1, 0, none⟩ = false

theorem RunJ.below {w0 : World} {m b : Nat} {op e : Int} {lose : Bool} {x y : Int} {w w' : World} {B : Nat} (h : RunJ w0 m b op e lose x y w) (h1 : m + 2 < b) (h2 : b + 2 < B) (hb : Below B w w') : RunJ w0 m b op e lose x y w' := by
  have hc : ∀ k, k < B → w'.cell? ⟨k, 0, none⟩ = w.cell? ⟨k, 0, none⟩ := fun k hk => hb.cell (p := ⟨k, 0, none⟩) hk
  have hz : ∀ k, k < B → w'.frozen? ⟨k, 0, none⟩ = w.frozen? ⟨k, 0, none⟩ := fun k hk => hb.frozen (p := ⟨k, 0, none⟩) hk
  exact ⟨h.kept.trans (hb.mono (by omega)), (hc _ (by omega)).trans h.cop, (hc _ (by omega)).trans h.ce, (hc _ (by omega)).trans h.cl, (hc _ (by omega)).trans h.cx, (hc _ (by omega)).trans h.cy, (hc _ (by omega)).trans h.cf, (hz _ (by omega)).trans h.zx, (hz _ (by omega)).trans h.zy⟩

theorem RunJ.setX {w0 : World} {m b : Nat} {op e : Int} {lose : Bool} {x y : Int} {w : World} (h : RunJ w0 m b op e lose x y w) (h1 : m + 2 < b) (x' : Int) :
    RunJ w0 m b op e lose x' y (w.setCell ⟨b, 0, none⟩ (.int .i64 x')) := by
  have hc : ∀ k, k ≠ b → (w.setCell ⟨b, 0, none⟩ (.int .i64 x')).cell? ⟨k, 0, none⟩ = w.cell? ⟨k, 0, none⟩ := fun k h1 => World.cell?_setCell_other _ _ _ _ (fun e => by injection e; omega)
  exact ⟨h.kept.setCell (p := ⟨b, 0, none⟩) (by show m ≤ b; omega) _, (hc _ (by omega)).trans h.cop, (hc _ (by omega)).trans h.ce, (hc _ (by omega)).trans h.cl, World.cell?_setCell_same _ _ _ h.cx, (hc _ (by omega)).trans h.cy, (hc _ (by omega)).trans h.cf,
    by simp [h.zx], by simp [h.zy]⟩
theorem RunJ.setY {w0 : World} {m b : Nat} {op e : Int} {lose : Bool} {x y : Int} {w : World} (h : RunJ w0 m b op e lose x y w) (h1 : m + 2 < b) (y' : Int) :
    RunJ w0 m b op e lose x y' (w.setCell ⟨b + 1, 0, none⟩ (.int .i64 y')) := by
  have hc : ∀ k, k ≠ b + 1 → (w.setCell ⟨b + 1, 0, none⟩ (.int .i64 y')).cell? ⟨k, 0, none⟩ = w.cell? ⟨k, 0, none⟩ := fun k h1 => World.cell?_setCell_other _ _ _ _ (fun e => by injection e; omega)
  exact ⟨h.kept.setCell (p := ⟨b + 1, 0, none⟩) (by show m ≤ b + 1; omega) _, (hc _ (by omega)).trans h.cop, (hc _ (by omega)).trans h.ce, (hc _ (by omega)).trans h.cl, (hc _ (by omega)).trans h.cx, World.cell?_setCell_same _ _ _ h.cy, (hc _ (by omega)).trans h.cf,
    by simp [h.zx], by simp [h.zy]⟩

theorem c22_d (b : Nat) (y : Int) (u : FrameMode) (w : World) (hy : 0 ≤ y ∧ y < 100) (hc : w.cell? ⟨b, 0, none⟩ = some (.int .i64 y)) (hz : w.frozen? ⟨b, 0, none⟩ = false) :
    CallsD Try.prog 22 #[.pointer (some ⟨b, 0, none⟩)] u w fun e u' w' => u' = u ∧ e = .returned (.tuple #[]) ∧ w' = w.setCell ⟨b, 0, none⟩ (.int .i64 (y + 1)) := by
  go_enter_d Try.func22, Try.ntmps22
  go_wp2_with fail
  exact ⟨rfl, .tuple #[], results_none rfl _ _ _, rfl, rfl⟩

theorem c21_ret (w0 : World) (m b : Nat) (op e x y : Int) (w : World) (B : Nat) (h1 : m + 2 < b) (h2 : b + 2 < B) (hx : 0 ≤ x ∧ x < 50) (hy : 0 ≤ y ∧ y < 50) (hJ : RunJ w0 m b op e false x y w) :
    Calls Try.prog 21 (fCap m b) w fun r w' => r = .returned (.tuple #[]) ∧ KeepFrom B w w' ∧ RunJ w0 m b op e false (x + 1 + 1) (y + 1) w' := by
  have hmf : ∀ (fn : Fn) (first cap : Array Value) (w : World), (Instr.makeFunc fn first cap).run Try.prog w = .ok (.func fn first cap) w := fun _ _ _ _ => rfl
  have hJ1 := hJ.setX h1 (x + 1)
  have hJ2 := hJ1.setX h1 (x + 1 + 1)
  have cl := hJ1.cl
  have cx := hJ.cx
  have cx1 := hJ1.cx
  have zx := hJ.zx
  have zx1 := hJ1.zx
  have H2 := Lib.hid hJ2
  have H3 := Lib.hid (hJ2.setY h1 (y + 1))
  have HK := Lib.hid ((((KeepFrom.refl B w).setCell (p := ⟨b, 0, none⟩) (by show b < B; omega) (.int .i64 (x + 1))).setCell (p := ⟨b, 0, none⟩) (by show b < B; omega) (.int .i64 (x + 1 + 1))).setCell (p := ⟨b + 1, 0, none⟩) (by show b + 1 < B; omega) (.int .i64 (y + 1)))
  clear hJ hJ1 hJ2
  go_enter_defers Try.func21, Try.ntmps21
  go_wp2_with fail
  refine leaves_cons (f := 22) (args := #[.pointer (some ⟨b + 1, 0, none⟩)]) (by simp) (by simp [go_sem]) ?_
  refine (c22_d (b + 1) y _ _ (by omega) H2.out.cy H2.out.zy).mono ?_
  rintro e u' w'' ⟨rfl, rfl, rfl⟩
  exact ⟨.tuple #[], results_none rfl _ _ _, rfl, HK.out, H3.out⟩

theorem c21_crash (w0 : World) (m b : Nat) (op e x y : Int) (w : World) (B : Nat) (h1 : m + 2 < b) (h2 : b + 2 < B) (hx : 0 ≤ x ∧ x < 50) (hy : 0 ≤ y ∧ y < 50) (hJ : RunJ w0 m b op e true x y w) :
    Calls Try.prog 21 (fCap m b) w fun r w' => r = .panicked [{ v := crash op, recovered := false }] ∧ KeepFrom B w w' ∧ RunJ w0 m b op e true (x + 1) (y + 1) w' := by
  have hmf : ∀ (fn : Fn) (first cap : Array Value) (w : World), (Instr.makeFunc fn first cap).run Try.prog w = .ok (.func fn first cap) w := fun _ _ _ _ => rfl
  have hJ1 := hJ.setX h1 (x + 1)
  have cl := hJ1.cl
  have cop := hJ1.cop
  have cx := hJ.cx
  have zx := hJ.zx
  have H2 := Lib.hid hJ1
  have H3 := Lib.hid (hJ1.setY h1 (y + 1))
  have HK := Lib.hid (((KeepFrom.refl B w).setCell (p := ⟨b, 0, none⟩) (by show b < B; omega) (.int .i64 (x + 1))).setCell (p := ⟨b + 1, 0, none⟩) (by show b + 1 < B; omega) (.int .i64 (y + 1)))
  clear hJ hJ1
  go_enter_defers Try.func21, Try.ntmps21
  go_wp2_with fail
  refine leaves_cons (f := 22) (args := #[.pointer (some ⟨b + 1, 0, none⟩)]) (by simp) (by simp [go_sem]) ?_
  refine (c22_d (b + 1) y _ _ (by omega) H2.out.cy H2.out.zy).mono ?_
  rintro e u' w'' ⟨rfl, rfl, rfl⟩
  exact ⟨rfl, HK.out, H3.out⟩

theorem c24_ret (w0 : World) (m b : Nat) (op e x y : Int) (w : World) (B : Nat) (he : 0 ≤ e ∧ e ≤ 255) (h1 : m + 2 < b) (h2 : b + 2 < B) (hx : 0 ≤ x ∧ x < 50) (hy : 0 ≤ y ∧ y < 50) (hJ : RunJ w0 m b op e false x y w) :
    Calls Try.prog 24 #[.pointer (some ⟨b + 2, 0, none⟩), .pointer (some ⟨m + 1, 0, none⟩)] w fun r w' => r = .returned (.int .i64 e) ∧ KeepFrom B w w' ∧ RunJ w0 m b op e false (x + 1 + 1) (y + 1) w' := by
  have hen := enters_of (g := 21) Try.func21 (by decide) rfl (fCap m b)
  have hen' : ∀ w, (callFunc 21 (fCap m b)).run Try.prog w = .ok (.enter 21 (fCap m b)) w := hen
  have cf := hJ.cf
  have H := Lib.hid (c21_ret w0 m b op e x y w B h1 h2 hx hy hJ)
  clear hJ hen
  go_enter Try.func24, Try.ntmps24
  go_wp2_with fail
  refine H.out.mono ?_
  rintro r w1 ⟨rfl, hk, hJ⟩
  have ce := hJ.ce
  have HK := Lib.hid (And.intro hk hJ)
  clear hk hJ H
  go_wp2_with fail
  exact bodyPost_ret (v := .int .i64 e) (by simp [results, Try.results24, go_sem]) rfl ⟨rfl, HK.out⟩

theorem c24_crash (w0 : World) (m b : Nat) (op e x y : Int) (w : World) (B : Nat) (h1 : m + 2 < b) (h2 : b + 2 < B) (hx : 0 ≤ x ∧ x < 50) (hy : 0 ≤ y ∧ y < 50) (hJ : RunJ w0 m b op e true x y w) :
    Calls Try.prog 24 #[.pointer (some ⟨b + 2, 0, none⟩), .pointer (some ⟨m + 1, 0, none⟩)] w fun r w' => r = .panicked [{ v := crash op, recovered := false }] ∧ KeepFrom B w w' ∧ RunJ w0 m b op e true (x + 1) (y + 1) w' := by
  have hen := enters_of (g := 21) Try.func21 (by decide) rfl (fCap m b)
  have hen' : ∀ w, (callFunc 21 (fCap m b)).run Try.prog w = .ok (.enter 21 (fCap m b)) w := hen
  have cf := hJ.cf
  have H := Lib.hid (c21_crash w0 m b op e x y w B h1 h2 hx hy hJ)
  clear hJ hen
  go_enter Try.func24, Try.ntmps24
  go_wp2_with fail
  refine H.out.mono ?_
  rintro r w1 ⟨rfl, hk, hJ⟩
  have HK := Lib.hid (And.intro hk hJ)
  clear hk hJ H
  go_wp2_with fail
  exact ⟨rfl, rfl, HK.out⟩

set_option maxRecDepth 100000 in
set_option maxHeartbeats 4000000 in
theorem runs_any (op e : Int) (lose : Bool) (w : World) (he : 0 ≤ e ∧ e ≤ 255) : Calls Try.prog 7 #[.int .i64 op, .int .u8 e, .bool lose] w fun r w' => r = .returned (.bool true) ∧ Below w.heap.size w w' := by
  go_enter Try.func7, Try.ntmps7
  go_wp2_with fail
  refine (alive_any _).mono ?_
  rintro r w1 ⟨rfl, hq⟩
  have hs1 := hq.size
  simp only [World.size_alloc] at hs1
  have hmb : w.heap.size + 2 < w1.heap.size := by omega
  have h0 : RunJ w w.heap.size w1.heap.size op e lose 0 0 (((w1.alloc (Obj.cells #[Value.int IntKind.i64 0] 3)).alloc (Obj.cells #[Value.int IntKind.i64 0] 3)).alloc (Obj.cells #[.func (.func 21) #[] (fCap w.heap.size w1.heap.size)] 1)) := by
    have hlow : ∀ k, k < w1.heap.size → (((w1.alloc (Obj.cells #[Value.int IntKind.i64 0] 3)).alloc (Obj.cells #[Value.int IntKind.i64 0] 3)).alloc (Obj.cells #[.func (.func 21) #[] (fCap w.heap.size w1.heap.size)] 1)).cell? ⟨k, 0, none⟩ = w1.cell? ⟨k, 0, none⟩ := fun k hk => by
      rw [World.cell?_alloc_lt _ _ _ (by simp; omega), World.cell?_alloc_lt _ _ _ (by simp; omega), World.cell?_alloc_lt _ _ _ hk]
    refine ⟨?_, ?_, ?_, ?_, ?_, ?_, ?_, ?_, ?_⟩
    · exact ((((((Below.refl _ _).alloc (Nat.le_refl _) _).alloc (by simp) _).alloc (by simp; omega) _).trans (hq.mono (by simp; omega))).alloc (by omega) _ |>.alloc (by simp; omega) _).alloc (by simp; omega) _
    · rw [hlow _ (by omega), hq.cell (p := ⟨w.heap.size, 0, none⟩) (by simp; omega), World.cell?_alloc_lt _ _ _ (by simp; omega), World.cell?_alloc_lt _ _ _ (by simp)]; simp [go_sem]
    · rw [hlow _ (by omega), hq.cell (p := ⟨w.heap.size + 1, 0, none⟩) (by simp), World.cell?_alloc_lt _ _ _ (by simp)]; simp [go_sem]
    · rw [hlow _ (by omega), hq.cell (p := ⟨w.heap.size + 2, 0, none⟩) (by simp)]; simp [go_sem]
    · simp [go_sem]
    · simp [go_sem]
    · simp [go_sem]
    · simp [go_sem]
    · simp [go_sem]
  have H0 := Lib.hid h0
  clear h0 hq
  have he21 := enters_of (g := 21) Try.func21 (by decide) rfl (fCap w.heap.size w1.heap.size)
  have he24 := enters_of (g := 24) Try.func24 (by decide) rfl #[.pointer (some ⟨w1.heap.size + 2, 0, none⟩), .pointer (some ⟨w.heap.size + 1, 0, none⟩)]
  cases lose with
  | false =>
    go_wp2_with fail
    refine (run_step 21 _ none he21 _ (RunJ w w.heap.size w1.heap.size op e false 0 0) (RunJ w w.heap.size w1.heap.size op e false 2 1) (B0 := w1.heap.size + 3) (by simp) (fun _ _ h hb => h.below hmb (by omega) hb) (fun _ _ h hb => h.below hmb (by omega) hb) H0.out
      (fun w2 h2 _ => (c21_ret w w.heap.size w1.heap.size op e 0 0 w2 (w1.heap.size + 3) hmb (by omega) (by omega) (by omega) h2).mono fun r w3 ⟨a, b, c⟩ => ⟨a, b, c⟩)).mono ?_
    rintro r w2 ⟨rfl, hk2, hJ2⟩
    have hs2 := hk2.size
    simp only [World.size_alloc] at hs2
    have H2 := Lib.hid (hJ2.below hmb (B := w2.heap.size) (by omega) ((Below.refl _ _).alloc (Nat.le_refl _) (.cells #[.int .i64 0] 28)))
    clear hk2 hJ2 H0
    rw [show toldAs none = .returned (.tuple #[.agg #[.int .i64 0], .bool false]) from rfl]
    go_wp2_with fail
    refine (do_step 24 _ (.ret e) (fun u z h => by cases h) he24 _ (fun w' => RunJ w w.heap.size w1.heap.size op e false 2 1 w' ∧ w'.cell? ⟨w2.heap.size, 0, none⟩ = some (.int .i64 0))
      (fun w' => RunJ w w.heap.size w1.heap.size op e false 4 2 w' ∧ w'.cell? ⟨w2.heap.size, 0, none⟩ = some (.int .i64 0)) (B0 := w2.heap.size + 1) (by simp)
      (fun _ _ h hb => ⟨h.1.below hmb (by omega) hb, (hb.cell (p := ⟨w2.heap.size, 0, none⟩) (Nat.lt_succ_self _)).trans h.2⟩) (fun _ _ h hb => ⟨h.1.below hmb (by omega) hb, (hb.cell (p := ⟨w2.heap.size, 0, none⟩) (Nat.lt_succ_self _)).trans h.2⟩) ⟨H2.out, by simp [go_sem]⟩
      (fun w3 h3 hb3 => (c24_ret w w.heap.size w1.heap.size op e 2 1 w3 (w1.heap.size + 3) he hmb (by omega) (by omega) (by omega) h3.1).mono fun r w4 ⟨a, b, c⟩ => ⟨a, b.mono (by omega), c, (b.cell (p := ⟨w2.heap.size, 0, none⟩) (by show w1.heap.size + 3 ≤ w2.heap.size; omega) (by show w2.heap.size < _; omega)).trans h3.2⟩)).mono ?_
    rintro r w3 ⟨rfl, hs3, hJ3, hc3⟩
    have cop := hJ3.cop
    have ce := hJ3.ce
    have cl := hJ3.cl
    have cx := hJ3.cx
    have cy := hJ3.cy
    have HK := Lib.hid (hJ3.kept.alloc (by omega) (.cells #[.int .i64 0] 28))
    clear hJ3 H2
    have l1 : w.heap.size < w3.heap.size := by omega
    have l2 : w.heap.size + 1 < w3.heap.size := by omega
    have l3 : w.heap.size + 2 < w3.heap.size := by omega
    have l4 : w1.heap.size < w3.heap.size := by omega
    have l5 : w1.heap.size + 1 < w3.heap.size := by omega
    have l6 : w2.heap.size < w3.heap.size := by omega
    rw [show Out.told (.ret e) = .returned (.tuple #[.int .i64 e, .agg #[.int .i64 0], .bool false]) from rfl]
    go_wp2_with fail
    exact bodyPost_ret (v := .bool true) (by simp [results, Try.results7, go_sem]) rfl ⟨rfl, HK.out⟩
  | true =>
    go_wp2_with fail
    refine (run_step 21 _ (some op) he21 _ (RunJ w w.heap.size w1.heap.size op e true 0 0) (RunJ w w.heap.size w1.heap.size op e true 1 1) (B0 := w1.heap.size + 3) (by simp) (fun _ _ h hb => h.below hmb (by omega) hb) (fun _ _ h hb => h.below hmb (by omega) hb) H0.out
      (fun w2 h2 _ => (c21_crash w w.heap.size w1.heap.size op e 0 0 w2 (w1.heap.size + 3) hmb (by omega) (by omega) (by omega) h2).mono fun r w3 ⟨a, b, c⟩ => ⟨a, b, c⟩)).mono ?_
    rintro r w2 ⟨rfl, hk2, hJ2⟩
    have hs2 := hk2.size
    simp only [World.size_alloc] at hs2
    have H2 := Lib.hid (hJ2.below hmb (B := w2.heap.size) (by omega) ((Below.refl _ _).alloc (Nat.le_refl _) (.cells #[.int .i64 op] 28)))
    clear hk2 hJ2 H0
    rw [show toldAs (some op) = .returned (.tuple #[.agg #[.int .i64 op], .bool true]) from rfl]
    go_wp2_with fail
    refine (do_step 24 _ (.crash op) (fun u z h => by cases h) he24 _ (fun w' => RunJ w w.heap.size w1.heap.size op e true 1 1 w' ∧ w'.cell? ⟨w2.heap.size, 0, none⟩ = some (.int .i64 op))
      (fun w' => RunJ w w.heap.size w1.heap.size op e true 2 2 w' ∧ w'.cell? ⟨w2.heap.size, 0, none⟩ = some (.int .i64 op)) (B0 := w2.heap.size + 1) (by simp)
      (fun _ _ h hb => ⟨h.1.below hmb (by omega) hb, (hb.cell (p := ⟨w2.heap.size, 0, none⟩) (Nat.lt_succ_self _)).trans h.2⟩) (fun _ _ h hb => ⟨h.1.below hmb (by omega) hb, (hb.cell (p := ⟨w2.heap.size, 0, none⟩) (Nat.lt_succ_self _)).trans h.2⟩) ⟨H2.out, by simp [go_sem]⟩
      (fun w3 h3 hb3 => (c24_crash w w.heap.size w1.heap.size op e 1 1 w3 (w1.heap.size + 3) hmb (by omega) (by omega) (by omega) h3.1).mono fun r w4 ⟨a, b, c⟩ => ⟨a, b.mono (by omega), c, (b.cell (p := ⟨w2.heap.size, 0, none⟩) (by show w1.heap.size + 3 ≤ w2.heap.size; omega) (by show w2.heap.size < _; omega)).trans h3.2⟩)).mono ?_
    rintro r w3 ⟨rfl, hs3, hJ3, hc3⟩
    have cop := hJ3.cop
    have ce := hJ3.ce
    have cl := hJ3.cl
    have cx := hJ3.cx
    have cy := hJ3.cy
    have HK := Lib.hid (hJ3.kept.alloc (by omega) (.cells #[.int .i64 op] 28))
    clear hJ3 H2
    have l1 : w.heap.size < w3.heap.size := by omega
    have l2 : w.heap.size + 1 < w3.heap.size := by omega
    have l3 : w.heap.size + 2 < w3.heap.size := by omega
    have l4 : w1.heap.size < w3.heap.size := by omega
    have l5 : w1.heap.size + 1 < w3.heap.size := by omega
    have l6 : w2.heap.size < w3.heap.size := by omega
    rw [show Out.told (.crash op) = .returned (.tuple #[.int .i64 0, .agg #[.int .i64 op], .bool true]) from rfl]
    go_wp2_with fail
    exact bodyPost_ret (v := .bool true) (by simp [results, Try.results7, go_sem]) rfl ⟨rfl, HK.out⟩
end Go.Proofs.Ytdkgjllpmfanlaa
