/- The walks of law03.meets and of law03.GuardLost. -/
import Derived.Test.YtdkgjllpmfanlaaDo
namespace Go.Proofs.Ytdkgjllpmfanlaa
open Go.RowKit

theorem below_keeps {W w' : World} (hq : Below W.heap.size W w') {p : Addr} {v : Value} (h : W.cell? p = some v) : w'.cell? p = some v := (hq.cell (World.block_lt_of_cell? W p h)).trans h
theorem alloc_keeps {W : World} {p : Addr} {v : Value} (h : W.cell? p = some v) (o : Obj) : (W.alloc o).cell? p = some v := (World.cell?_alloc_lt _ _ _ (World.block_lt_of_cell? W p h)).trans h

theorem c39_d (n : Nat) (t : TypeId) (x y : Value) (older : List PanicEntry) (w : World) (hc : w.cell? ⟨n, 0, none⟩ = some y) (hz : w.frozen? ⟨n, 0, none⟩ = false) :
    CallsD Try.prog 39 #[.pointer (some ⟨n, 0, none⟩)] (.panicking ({ v := .iface t x, recovered := false } :: older)) w fun e u' w' =>
      e = .returned (.tuple #[]) ∧ u' = .panicking ({ v := .iface t x, recovered := true } :: older) ∧ w' = w.setCell ⟨n, 0, none⟩ (.iface t x) := by
  refine callsD_of_wpS Try.func39 rfl fun c₀ cs hu => ?_
  apply wpS_region
  simp [wpOpsS, go_sem, recoverD, hu, Try.ntmps39, hc, hz]
  exact ⟨rfl, _, rfl, .tuple #[], results_none rfl _ _ _, rfl, rfl, rfl⟩

/-- meets, over a function that panics -/
theorem meets_step {B0 : Nat} (g : FuncId) (cap : Array Value) (t : TypeId) (x : Value) (older : List PanicEntry) (hst : settle (.panicking ({ v := .iface t x, recovered := true } :: older)) = .returning) (he : Enters g cap) (w : World) (J0 J1 : World → Prop) (hB : B0 ≤ w.heap.size)
    (hs0 : ∀ w w', J0 w → Below B0 w w' → J0 w') (hs1 : ∀ w w', J1 w → Below B0 w w' → J1 w') (hJ : J0 w)
    (h : ∀ w, J0 w → B0 ≤ w.heap.size → Calls Try.prog g cap w fun e w1 => e = .panicked ({ v := .iface t x, recovered := false } :: older) ∧ KeepFrom B0 w w1 ∧ J1 w1) :
    Calls Try.prog 32 #[.func (.func g) #[] cap] w fun e w' => e = .returned (.iface t x) ∧ KeepFrom B0 w w' ∧ J1 w' := by
  have hmf : ∀ (fn : Fn) (first cap : Array Value) (w : World), (Instr.makeFunc fn first cap).run Try.prog w = .ok (.func fn first cap) w := fun _ _ _ _ => rfl
  have hen : ∀ w, (callFunc g cap).run Try.prog w = .ok (.enter g cap) w := he
  have hb0 : Below w.heap.size w (w.alloc (.cells #[.nilIface] 20)) := (Below.refl _ _).alloc (Nat.le_refl _) _
  have H := Lib.hid (h _ (hs0 _ _ hJ (hb0.mono hB)) (by simp; omega))
  have HS := Lib.hid hs1
  clear h hs0 hs1 he
  go_enter_defers Try.func32, Try.ntmps32
  go_wp2_with fail
  refine H.out.mono ?_
  rintro e w1 ⟨rfl, hk, hJ1⟩
  have c0 : w1.cell? ⟨w.heap.size, 0, none⟩ = some .nilIface := (hk.cell hB (by simp)).trans (by simp [go_sem])
  have z0 : w1.frozen? ⟨w.heap.size, 0, none⟩ = false := (hk.frozen hB (by simp)).trans (by simp [go_sem])
  go_wp2_with fail
  refine leaves_cons (f := 39) (args := #[.pointer (some ⟨w.heap.size, 0, none⟩)]) (by simp) (by simp [go_sem]) ?_
  refine (c39_d w.heap.size t x .nilIface older w1 c0 z0).mono ?_
  rintro e u' w'' ⟨rfl, rfl, rfl⟩
  have e0 := World.cell?_setCell_same w1 ⟨w.heap.size, 0, none⟩ (.iface t x) c0
  show Leaves _ _ _ _ [] (settle _) _
  rw [hst]
  refine ⟨.iface t x, by simp [results, Try.results32, go_sem, e0], rfl, ?_, HS.out _ _ hJ1 ((Below.refl _ _).setCell (p := ⟨w.heap.size, 0, none⟩) hB _)⟩
  have hk1 : KeepFrom B0 w w1 := (KeepFrom.of_below hb0).trans hk
  exact hk1.below ((Below.refl _ _).setCell (p := ⟨w.heap.size, 0, none⟩) (Nat.le_refl _) _)

theorem c33_any (b : Nat) (op : Int) (w : World) (hc : w.cell? ⟨b, 0, none⟩ = some (.int .i64 op)) :
    Calls Try.prog 33 #[.pointer (some ⟨b, 0, none⟩)] w fun e w' => e = .panicked [{ v := crash op, recovered := false }] ∧ w' = w := by
  go_enter Try.func33, Try.ntmps33
  go_wp2_with fail
  refine (lose_any _ _).mono ?_
  rintro e w2 ⟨rfl, rfl⟩
  go_wp2_with fail
  exact ⟨rfl, rfl, rfl⟩

/-- Row over two functions that are not there -/
theorem row_nils (b : Nat) (w : World) (h0 : w.cell? ⟨b, 0, none⟩ = some .nilFunc) (h1 : w.cell? ⟨b, 1, none⟩ = some .nilFunc) :
    Calls Try.prog 12 #[.slice (some ⟨b, 0, none⟩) 2 2] w fun e w' => e = .returned (.tuple #[.int .i64 2, .agg #[.int .i64 0], .bool false]) ∧ Below w.heap.size w w' := by
  refine (row_walk 2 b 0 2 (fun _ => .nilFunc) (fun _ => none) w.heap.size (fun _ w' => Below w.heap.size w w') (by decide) ?_ (fun i a b h hb => h.trans hb) ?_ w (Below.refl _ _) (Nat.le_refl _)).mono ?_
  · intro i w' hb j hj
    match j, hj with
    | 0, _ => exact below_keeps hb h0
    | 1, _ => exact below_keeps hb h1
  · intro i w1 hi hb hB
    refine (run_nil w1).mono ?_
    rintro e w2 ⟨rfl, hq⟩
    exact ⟨rfl, KeepFrom.of_below hq, hb.trans (hq.mono hB)⟩
  · rintro e w' ⟨rfl, -, hb⟩
    exact ⟨rfl, hb⟩

set_option maxRecDepth 100000 in
set_option maxHeartbeats 4000000 in
theorem lost_any (op : Int) (w : World) : Calls Try.prog 9 #[.int .i64 op] w fun e w' => e = .returned (.bool true) ∧ Below w.heap.size w w' := by
  have hmf : ∀ (fn : Fn) (first cap : Array Value) (w : World), (Instr.makeFunc fn first cap).run Try.prog w = .ok (.func fn first cap) w := fun _ _ _ _ => rfl
  have he33 := enters_of (g := 33) Try.func33 (by decide) rfl #[.pointer (some ⟨w.heap.size, 0, none⟩)]
  go_enter Try.func9, Try.ntmps9
  go_wp2_with fail
  refine (meets_step 33 _ 28 (.agg #[.int .i64 op]) [] rfl he33 _ (fun w' => Below w.heap.size w w' ∧ w'.cell? ⟨w.heap.size, 0, none⟩ = some (.int .i64 op)) (fun w' => Below w.heap.size w w' ∧ w'.cell? ⟨w.heap.size, 0, none⟩ = some (.int .i64 op)) (B0 := w.heap.size + 1) (by simp)
    (fun _ _ h hb => ⟨h.1.trans (hb.mono (Nat.le_succ _)), (hb.cell (p := ⟨w.heap.size, 0, none⟩) (Nat.lt_succ_self _)).trans h.2⟩) (fun _ _ h hb => ⟨h.1.trans (hb.mono (Nat.le_succ _)), (hb.cell (p := ⟨w.heap.size, 0, none⟩) (Nat.lt_succ_self _)).trans h.2⟩)
    ⟨(Below.refl _ _).alloc (Nat.le_refl _) _, by simp [go_sem]⟩ (fun w1 h1 _ => (c33_any _ op w1 h1.2).mono fun e w2 ⟨a, b⟩ => ⟨a, b ▸ KeepFrom.refl _ _, b ▸ h1⟩)).mono ?_
  rintro e w1 ⟨rfl, hk1, hb, c1⟩
  have hz1 := hk1.size
  simp only [World.size_alloc] at hz1
  clear hk1
  go_wp2_with fail
  refine (lost_crash op w1).mono ?_
  rintro e w2 ⟨rfl, hq2⟩
  replace c1 := below_keeps hq2 c1
  have d4 : (w2.alloc (.cells #[.int .i64 op] 28)).cell? ⟨w2.heap.size, 0, none⟩ = some (.int .i64 op) := by simp [go_sem]
  replace c1 := alloc_keeps c1 (.cells #[.int .i64 op] 28)
  replace hb : Below w.heap.size w (w2.alloc (.cells #[.int .i64 op] 28)) := (hb.trans (hq2.mono (by omega))).alloc (by have := hq2.size; omega) _
  go_wp2_with fail
  refine (lost_nil _).mono ?_
  rintro e w3 ⟨rfl, hq⟩
  replace c1 := alloc_keeps (below_keeps hq c1) (.cells #[.int .i64 0] 28)
  replace d4 := alloc_keeps (below_keeps hq d4) (.cells #[.int .i64 0] 28)
  have d6 : (w3.alloc (.cells #[.int .i64 0] 28)).cell? ⟨w3.heap.size, 0, none⟩ = some (.int .i64 0) := by simp [go_sem]
  replace hb : Below w.heap.size w (w3.alloc (.cells #[.int .i64 0] 28)) := (hb.trans (hq.mono hb.size)).alloc (by have := hb.size; have := hq.size; omega) _
  clear hq
  go_wp2_with fail
  refine (run_nil _).mono ?_
  rintro e w4 ⟨rfl, hq⟩
  replace c1 := alloc_keeps (below_keeps hq c1) (.cells #[.int .i64 0] 28)
  replace d4 := alloc_keeps (below_keeps hq d4) (.cells #[.int .i64 0] 28)
  replace d6 := alloc_keeps (below_keeps hq d6) (.cells #[.int .i64 0] 28)
  have d8 : (w4.alloc (.cells #[.int .i64 0] 28)).cell? ⟨w4.heap.size, 0, none⟩ = some (.int .i64 0) := by simp [go_sem]
  replace hb : Below w.heap.size w (w4.alloc (.cells #[.int .i64 0] 28)) := (hb.trans (hq.mono hb.size)).alloc (by have := hb.size; have := hq.size; omega) _
  clear hq
  go_wp2_with fail
  refine (do_nil _).mono ?_
  rintro e w5 ⟨rfl, hq⟩
  replace c1 := alloc_keeps (below_keeps hq c1) (.cells #[.int .i64 0] 28)
  replace d4 := alloc_keeps (below_keeps hq d4) (.cells #[.int .i64 0] 28)
  replace d6 := alloc_keeps (below_keeps hq d6) (.cells #[.int .i64 0] 28)
  replace d8 := alloc_keeps (below_keeps hq d8) (.cells #[.int .i64 0] 28)
  have d11 : (w5.alloc (.cells #[.int .i64 0] 28)).cell? ⟨w5.heap.size, 0, none⟩ = some (.int .i64 0) := by simp [go_sem]
  replace hb : Below w.heap.size w (w5.alloc (.cells #[.int .i64 0] 28)) := (hb.trans (hq.mono hb.size)).alloc (by have := hb.size; have := hq.size; omega) _
  clear hq
  go_wp2_with fail
  refine (row_none _).mono ?_
  rintro e w6 ⟨rfl, hq⟩
  replace c1 := alloc_keeps (below_keeps hq c1) (.cells #[.int .i64 0] 28)
  replace d4 := alloc_keeps (below_keeps hq d4) (.cells #[.int .i64 0] 28)
  replace d6 := alloc_keeps (below_keeps hq d6) (.cells #[.int .i64 0] 28)
  replace d8 := alloc_keeps (below_keeps hq d8) (.cells #[.int .i64 0] 28)
  replace d11 := alloc_keeps (below_keeps hq d11) (.cells #[.int .i64 0] 28)
  have d14 : (w6.alloc (.cells #[.int .i64 0] 28)).cell? ⟨w6.heap.size, 0, none⟩ = some (.int .i64 0) := by simp [go_sem]
  replace hb : Below w.heap.size w (w6.alloc (.cells #[.int .i64 0] 28)) := (hb.trans (hq.mono hb.size)).alloc (by have := hb.size; have := hq.size; omega) _
  clear hq
  go_wp2_with fail
  have n0 : ((w6.alloc (.cells #[.int .i64 0] 28)).alloc (.cells #[.nilFunc, .nilFunc] 1)).cell? ⟨w6.heap.size + 1, 0, none⟩ = some .nilFunc := by simp [go_sem]
  have n1 : ((w6.alloc (.cells #[.int .i64 0] 28)).alloc (.cells #[.nilFunc, .nilFunc] 1)).cell? ⟨w6.heap.size + 1, 1, none⟩ = some .nilFunc := by simp [go_sem]
  refine (row_nils (w6.heap.size + 1) _ n0 n1).mono ?_
  rintro e w7 ⟨rfl, hq⟩
  replace c1 := alloc_keeps (below_keeps hq (alloc_keeps c1 (.cells #[.nilFunc, .nilFunc] 1))) (.cells #[.int .i64 0] 28)
  replace d4 := alloc_keeps (below_keeps hq (alloc_keeps d4 (.cells #[.nilFunc, .nilFunc] 1))) (.cells #[.int .i64 0] 28)
  replace d6 := alloc_keeps (below_keeps hq (alloc_keeps d6 (.cells #[.nilFunc, .nilFunc] 1))) (.cells #[.int .i64 0] 28)
  replace d8 := alloc_keeps (below_keeps hq (alloc_keeps d8 (.cells #[.nilFunc, .nilFunc] 1))) (.cells #[.int .i64 0] 28)
  replace d11 := alloc_keeps (below_keeps hq (alloc_keeps d11 (.cells #[.nilFunc, .nilFunc] 1))) (.cells #[.int .i64 0] 28)
  replace d14 := alloc_keeps (below_keeps hq (alloc_keeps d14 (.cells #[.nilFunc, .nilFunc] 1))) (.cells #[.int .i64 0] 28)
  have d17 : (w7.alloc (.cells #[.int .i64 0] 28)).cell? ⟨w7.heap.size, 0, none⟩ = some (.int .i64 0) := by simp [go_sem]
  replace hb : Below w.heap.size w (w7.alloc (.cells #[.int .i64 0] 28)) := ((hb.alloc hb.size (.cells #[.nilFunc, .nilFunc] 1)).trans (hq.mono (by have := hb.size; simp at this ⊢; omega))).alloc (by have := hb.size; have := hq.size; simp at *; omega) _
  clear hq n0 n1
  go_wp2_with fail
  refine (alive_any _).mono ?_
  rintro e w8 ⟨rfl, hq⟩
  replace c1 := below_keeps hq c1
  replace d4 := below_keeps hq d4
  replace d6 := below_keeps hq d6
  replace d8 := below_keeps hq d8
  replace d11 := below_keeps hq d11
  replace d14 := below_keeps hq d14
  replace d17 := below_keeps hq d17
  replace hb := hb.trans (hq.mono hb.size)
  clear hq
  go_wp2_with fail
  exact bodyPost_ret (v := .bool true) (by simp [results, Try.results9, go_sem]) rfl ⟨rfl, hb⟩
end Go.Proofs.Ytdkgjllpmfanlaa
