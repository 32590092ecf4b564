/- The walk of guard.Do. -/
import Derived.Test.YtdkgjllpmfanlaaGb
namespace Go.Proofs.Ytdkgjllpmfanlaa
open Go.RowKit

/-- how a function ends that answers an error -/
inductive Out where
  | ret (r : Int)
  | crash (c : Int)
  | other (u : TypeId) (z : Value)

def Out.ends : Out → Ending
  | .ret r => .returned (.int .i64 r)
  | .crash c => .panicked [{ v := Proofs.Ytdkgjllpmfanlaa.crash c, recovered := false }]
  | .other u z => .panicked [{ v := .iface u z, recovered := false }]

def Out.told : Out → Ending
  | .ret r => .returned (.tuple #[.int .i64 r, .agg #[.int .i64 0], .bool false])
  | .crash c => .returned (.tuple #[.int .i64 0, .agg #[.int .i64 c], .bool true])
  | .other u z => .panicked [{ v := .iface u z, recovered := false }, { v := .iface u z, recovered := true }]

theorem func_nil43 (g : FuncId) (cap : Array Value) (w : World) : (binOp .eql 43 (.func (.func g) #[] cap) .nilFunc).run Try.prog w = .ok (.bool false) w := by kernel_rfl
theorem nil_nil43 (w : World) : (binOp .eql 43 .nilFunc .nilFunc).run Try.prog w = .ok (.bool true) w := by kernel_rfl

theorem c38_ret (n : Nat) (g : FuncId) (cap : Array Value) (he : Enters g cap) (r : Int) (w : World) (J : World → Prop) (hf : w.cell? ⟨n, 0, none⟩ = some (.func (.func g) #[] cap))
    (h : Calls Try.prog g cap w fun e w1 => e = .returned (.int .i64 r) ∧ w1.cell? ⟨n + 1, 0, none⟩ = some (.int .i64 0) ∧ w1.frozen? ⟨n + 1, 0, none⟩ = false ∧ J w1) :
    Calls Try.prog 38 #[.pointer (some ⟨n, 0, none⟩), .pointer (some ⟨n + 1, 0, none⟩)] w fun e w' => e = .returned (.tuple #[]) ∧ ∃ w1, J w1 ∧ w1.cell? ⟨n + 1, 0, none⟩ = some (.int .i64 0) ∧ w' = w1.setCell ⟨n + 1, 0, none⟩ (.int .i64 r) := by
  have hen : ∀ w, (callFunc g cap).run Try.prog w = .ok (.enter g cap) w := he
  have H := Lib.hid h
  clear h he
  go_enter Try.func38, Try.ntmps38
  go_wp2_with fail
  refine H.out.mono ?_
  rintro e w1 ⟨rfl, hc, hz, hJ⟩
  go_wp2_with fail
  exact ⟨rfl, .tuple #[], results_none rfl _ _ _, rfl, w1, hJ, hc, rfl⟩

theorem c38_panic (n : Nat) (g : FuncId) (cap : Array Value) (he : Enters g cap) (ch : List PanicEntry) (w : World) (J : World → Prop) (hf : w.cell? ⟨n, 0, none⟩ = some (.func (.func g) #[] cap))
    (h : Calls Try.prog g cap w fun e w1 => e = .panicked ch ∧ J w1) :
    Calls Try.prog 38 #[.pointer (some ⟨n, 0, none⟩), .pointer (some ⟨n + 1, 0, none⟩)] w fun e w' => e = .panicked ch ∧ J w' := by
  have hen : ∀ w, (callFunc g cap).run Try.prog w = .ok (.enter g cap) w := he
  have H := Lib.hid h
  clear h he
  go_enter Try.func38, Try.ntmps38
  go_wp2_with fail
  refine H.out.mono ?_
  rintro e w1 ⟨rfl, hJ⟩
  go_wp2_with fail
  exact ⟨rfl, rfl, hJ⟩

theorem KeepFrom.toSpares {B0 : Nat} {w w1 : World} (h : KeepFrom B0 (boxed w) w1) (hB : B0 ≤ w.heap.size) : Spares w w1 := h.spares hB

theorem three_set {w : World} {b : Nat} {x y : Value} (p q s : Value) (hb : w.cell? ⟨b, 0, none⟩ = some x) (hc : w.cell? ⟨b + 1, 0, none⟩ = some y) :
    (((w.setCell ⟨b + 1, 0, none⟩ p).setCell ⟨b, 0, none⟩ q).setCell ⟨b + 1, 0, none⟩ s).cell? ⟨b, 0, none⟩ = some q ∧ (((w.setCell ⟨b + 1, 0, none⟩ p).setCell ⟨b, 0, none⟩ q).setCell ⟨b + 1, 0, none⟩ s).cell? ⟨b + 1, 0, none⟩ = some s := by
  have h1 : (⟨b, 0, none⟩ : Addr) ≠ ⟨b + 1, 0, none⟩ := fun e => by injection e; omega
  have k1 : (w.setCell ⟨b + 1, 0, none⟩ p).cell? ⟨b, 0, none⟩ = some x := (World.cell?_setCell_other _ _ _ _ h1.symm).trans hb
  have k2 : ((w.setCell ⟨b + 1, 0, none⟩ p).setCell ⟨b, 0, none⟩ q).cell? ⟨b + 1, 0, none⟩ = some p := (World.cell?_setCell_other _ _ _ _ h1).trans (World.cell?_setCell_same _ _ _ hc)
  exact ⟨(World.cell?_setCell_other _ _ _ _ h1.symm).trans (World.cell?_setCell_same _ _ _ k1), World.cell?_setCell_same _ _ _ k2⟩

theorem three_below {w : World} {B b : Nat} (hB : B ≤ b) (p q s : Value) : Below B w (((w.setCell ⟨b + 1, 0, none⟩ p).setCell ⟨b, 0, none⟩ q).setCell ⟨b + 1, 0, none⟩ s) :=
  (((Below.refl _ _).setCell (p := ⟨b + 1, 0, none⟩) (Nat.le_succ_of_le hB) _).setCell (p := ⟨b, 0, none⟩) hB _).setCell (p := ⟨b + 1, 0, none⟩) (Nat.le_succ_of_le hB) _

set_option maxHeartbeats 2000000 in
/-- Do over a function of which one call is known -/
theorem do_step {B0 : Nat} (g : FuncId) (cap : Array Value) (o : Out) (ho : ∀ u z, o = .other u z → u ≠ 28) (he : Enters g cap) (w : World) (J0 J1 : World → Prop) (hB : B0 ≤ w.heap.size)
    (hs0 : ∀ w w', J0 w → Below B0 w w' → J0 w') (hs1 : ∀ w w', J1 w → Below B0 w w' → J1 w') (hJ : J0 w)
    (h : ∀ w, J0 w → B0 ≤ w.heap.size → Calls Try.prog g cap w fun e w1 => e = o.ends ∧ KeepFrom B0 w w1 ∧ J1 w1) :
    Calls Try.prog 23 #[.func (.func g) #[] cap] w fun e w' => e = o.told ∧ B0 ≤ w'.heap.size ∧ J1 w' := by
  have hnil := func_nil43 g cap
  have hmf : ∀ (fn : Fn) (first cap : Array Value) (w : World), (Instr.makeFunc fn first cap).run Try.prog w = .ok (.func fn first cap) w := fun _ _ _ _ => rfl
  obtain ⟨W, hW⟩ : ∃ W, W = ((w.alloc (.cells #[.func (.func g) #[] cap] 43)).alloc (.cells #[.int .i64 0] 40)).alloc (.cells #[.int .i64 0] 28) := ⟨_, rfl⟩
  have hWs : W.heap.size = w.heap.size + 3 := by rw [hW]; simp
  have hb0 : Below w.heap.size w W := by rw [hW]; exact (((Below.refl _ _).alloc (Nat.le_refl _) _).alloc (by simp) _).alloc (by simp; omega) _
  have hbx := below_boxed W
  have hsz := size_boxed W
  have hcf : (boxed W).cell? ⟨w.heap.size, 0, none⟩ = some (.func (.func g) #[] cap) := by
    rw [hbx.cell (p := ⟨w.heap.size, 0, none⟩) (by show w.heap.size < _; omega), hW, World.cell?_alloc_lt _ _ _ (by simp; omega), World.cell?_alloc_lt _ _ _ (by simp)]; simp [go_sem]
  have hce : (boxed W).cell? ⟨w.heap.size + 1, 0, none⟩ = some (.int .i64 0) := by
    rw [hbx.cell (p := ⟨w.heap.size + 1, 0, none⟩) (by show w.heap.size + 1 < _; omega), hW, World.cell?_alloc_lt _ _ _ (by simp)]; simp [go_sem]
  have hze : (boxed W).frozen? ⟨w.heap.size + 1, 0, none⟩ = false := by
    rw [hbx.frozen (p := ⟨w.heap.size + 1, 0, none⟩) (by show w.heap.size + 1 < _; omega), hW]; simp [go_sem]
  have hcc : (boxed W).cell? ⟨w.heap.size + 2, 0, none⟩ = some (.int .i64 0) := by
    rw [hbx.cell (p := ⟨w.heap.size + 2, 0, none⟩) (by show w.heap.size + 2 < _; omega), hW]; simp [go_sem]
  have hzc : (boxed W).frozen? ⟨w.heap.size + 2, 0, none⟩ = false := by
    rw [hbx.frozen (p := ⟨w.heap.size + 2, 0, none⟩) (by show w.heap.size + 2 < _; omega), hW]; simp [go_sem]
  have h0 := Lib.hid (h (boxed W) (hs0 _ _ hJ ((hb0.mono hB).trans (hbx.mono (by omega)))) (by omega))
  have he38 := enters_of (g := 38) Try.func38 (by decide) rfl #[.pointer (some ⟨w.heap.size, 0, none⟩), .pointer (some ⟨w.heap.size + 1, 0, none⟩)]
  have HS := Lib.hid hs1
  have KX : ∀ w1, KeepFrom B0 (boxed W) w1 → w1.cell? ⟨w.heap.size + 1, 0, none⟩ = some (.int .i64 0) ∧ w1.frozen? ⟨w.heap.size + 1, 0, none⟩ = false ∧ w1.cell? ⟨w.heap.size + 2, 0, none⟩ = some (.int .i64 0) ∧ w1.frozen? ⟨w.heap.size + 2, 0, none⟩ = false :=
    fun w1 hk => ⟨(hk.cell (by show B0 ≤ w.heap.size + 1; omega) (by show w.heap.size + 1 < _; omega)).trans hce, (hk.frozen (by show B0 ≤ w.heap.size + 1; omega) (by show w.heap.size + 1 < _; omega)).trans hze,
      (hk.cell (by show B0 ≤ w.heap.size + 2; omega) (by show w.heap.size + 2 < _; omega)).trans hcc, (hk.frozen (by show B0 ≤ w.heap.size + 2; omega) (by show w.heap.size + 2 < _; omega)).trans hzc⟩
  have HX := Lib.hid KX
  clear KX h hs0 hs1 hJ hce hze hcc hzc
  have HF := Lib.hid hcf
  have HW := Lib.hid hW
  clear hcf hW
  cases o with
  | ret r =>
    have HR := Lib.hid (run_ret 38 _ he38 W (fun w2 => ∃ w1, KeepFrom B0 (boxed W) w1 ∧ J1 w1 ∧ w2 = w1.setCell ⟨w.heap.size + 1, 0, none⟩ (.int .i64 r)) (by
      refine (c38_ret w.heap.size g cap he r (boxed W) (fun w1 => KeepFrom B0 (boxed W) w1 ∧ J1 w1) HF.out (h0.out.mono fun e w1 ⟨a, b, c⟩ => ⟨a, (HX.out w1 b).1, (HX.out w1 b).2.1, b, c⟩)).mono ?_
      rintro e w2 ⟨rfl, w1, ⟨hk, hj⟩, hc, rfl⟩
      refine ⟨rfl, ?_, w1, hk, hj, rfl⟩
      have hsp := hk.spares (w := W) (by omega)
      exact ⟨hsp.1.setCell (Nat.zero_le _) _, (Below.heap_setCell _ _ _ _ (by show W.heap.size ≠ w.heap.size + 1; omega)).trans hsp.2.1, (Below.heap_setCell _ _ _ _ (by show W.heap.size + 1 ≠ w.heap.size + 1; omega)).trans hsp.2.2⟩))
    clear he he38 h0 HF
    go_enter Try.func23, Try.ntmps23
    go_wp2_with fail
    rw [← HW.out]
    refine HR.out.mono ?_
    rintro e w3 ⟨rfl, w2, ⟨w1, hk, hj, rfl⟩, hq⟩
    clear HR
    obtain ⟨x1, x2, x3, x4⟩ := HX.out w1 hk
    have hs3 : W.heap.size ≤ w3.heap.size := by have := hk.size; have := hq.size; simp at this; omega
    have y1 : w3.cell? ⟨w.heap.size + 1, 0, none⟩ = some (.int .i64 r) := (hq.cell (p := ⟨w.heap.size + 1, 0, none⟩) (by show w.heap.size + 1 < _; omega)).trans (World.cell?_setCell_same _ _ _ x1)
    have y2 : w3.frozen? ⟨w.heap.size + 1, 0, none⟩ = false := (hq.frozen (p := ⟨w.heap.size + 1, 0, none⟩) (by show w.heap.size + 1 < _; omega)).trans (by simp [x2])
    have y3 : w3.cell? ⟨w.heap.size + 2, 0, none⟩ = some (.int .i64 0) := (hq.cell (p := ⟨w.heap.size + 2, 0, none⟩) (by show w.heap.size + 2 < _; omega)).trans ((World.cell?_setCell_other _ _ _ _ (fun e => by injection e; omega)).trans x3)
    have y4 : w3.frozen? ⟨w.heap.size + 2, 0, none⟩ = false := (hq.frozen (p := ⟨w.heap.size + 2, 0, none⟩) (by show w.heap.size + 2 < _; omega)).trans (by simp [x4])
    have HJ := Lib.hid (HS.out _ _ (HS.out _ _ hj (Below.setCell (p := ⟨w.heap.size + 1, 0, none⟩) (Below.refl _ _) (by show B0 ≤ w.heap.size + 1; omega) _)) (hq.mono (by omega)))
    clear hj hk hq x1 x2 x3 x4
    go_wp2_with fail
    go_region
    go_wp2_with fail
    obtain ⟨e1, e2⟩ := three_set (.int .i64 0) (.int .i64 r) (.int .i64 0) y1 y3
    have hb3 := three_below (w := w3) (B := B0) (b := w.heap.size + 1) (by omega) (.int .i64 0) (.int .i64 r) (.int .i64 0)
    exact bodyPost_ret (v := .tuple #[.int .i64 r, .agg #[.int .i64 0], .bool false]) (by simp [results, Try.results23, go_sem, e1, e2]) rfl ⟨rfl, by simp [World.drew]; omega, HS.out _ _ HJ.out hb3.drew⟩
  | crash c =>
    have HR := Lib.hid (run_crash 38 _ c he38 W (fun w1 => KeepFrom B0 (boxed W) w1 ∧ J1 w1) (by
      refine (c38_panic w.heap.size g cap he _ (boxed W) (fun w1 => KeepFrom B0 (boxed W) w1 ∧ J1 w1) HF.out (h0.out.mono fun e w1 ⟨a, b, c⟩ => ⟨a, b, c⟩)).mono ?_
      rintro e w2 ⟨rfl, hk, hj⟩
      exact ⟨rfl, hk.spares (w := W) (by omega), hk, hj⟩))
    clear he he38 h0 HF
    go_enter Try.func23, Try.ntmps23
    go_wp2_with fail
    rw [← HW.out]
    refine HR.out.mono ?_
    rintro e w3 ⟨rfl, w1, ⟨hk, hj⟩, hq⟩
    clear HR
    obtain ⟨x1, x2, x3, x4⟩ := HX.out w1 hk
    have hs3 : W.heap.size ≤ w3.heap.size := by have := hk.size; have := hq.size; omega
    have y1 : w3.cell? ⟨w.heap.size + 1, 0, none⟩ = some (.int .i64 0) := (hq.cell (p := ⟨w.heap.size + 1, 0, none⟩) (by show w.heap.size + 1 < _; omega)).trans x1
    have y2 : w3.frozen? ⟨w.heap.size + 1, 0, none⟩ = false := (hq.frozen (p := ⟨w.heap.size + 1, 0, none⟩) (by show w.heap.size + 1 < _; omega)).trans x2
    have y3 : w3.cell? ⟨w.heap.size + 2, 0, none⟩ = some (.int .i64 0) := (hq.cell (p := ⟨w.heap.size + 2, 0, none⟩) (by show w.heap.size + 2 < _; omega)).trans x3
    have y4 : w3.frozen? ⟨w.heap.size + 2, 0, none⟩ = false := (hq.frozen (p := ⟨w.heap.size + 2, 0, none⟩) (by show w.heap.size + 2 < _; omega)).trans x4
    have HJ := Lib.hid (HS.out _ _ hj (hq.mono (by omega)))
    clear hj hk hq x1 x2 x3 x4
    go_wp2_with fail
    go_region
    go_wp2_with fail
    obtain ⟨e1, e2⟩ := three_set (.int .i64 c) (.int .i64 0) (.int .i64 c) y1 y3
    have hb3 := three_below (w := w3) (B := B0) (b := w.heap.size + 1) (by omega) (.int .i64 c) (.int .i64 0) (.int .i64 c)
    exact bodyPost_ret (v := .tuple #[.int .i64 0, .agg #[.int .i64 c], .bool true]) (by simp [results, Try.results23, go_sem, e1, e2]) rfl ⟨rfl, by simp [World.drew]; omega, HS.out _ _ HJ.out hb3.drew⟩
  | other u z =>
    have HR := Lib.hid (run_other 38 _ u (ho u z rfl) z he38 W (fun w1 => KeepFrom B0 (boxed W) w1 ∧ J1 w1) (by
      refine (c38_panic w.heap.size g cap he _ (boxed W) (fun w1 => KeepFrom B0 (boxed W) w1 ∧ J1 w1) HF.out (h0.out.mono fun e w1 ⟨a, b, c⟩ => ⟨a, b, c⟩)).mono ?_
      rintro e w2 ⟨rfl, hk, hj⟩
      exact ⟨rfl, hk.spares (w := W) (by omega), hk, hj⟩))
    clear he he38 h0 HF
    go_enter Try.func23, Try.ntmps23
    go_wp2_with fail
    rw [← HW.out]
    refine HR.out.mono ?_
    rintro e w3 ⟨rfl, w1, ⟨hk, hj⟩, hq⟩
    clear HR
    have hs3 : W.heap.size ≤ w3.heap.size := by have := hk.size; have := hq.size; omega
    have HJ := Lib.hid (HS.out _ _ hj (hq.mono (by omega)))
    clear hj hk hq
    go_wp2_with fail
    exact ⟨rfl, rfl, by omega, HJ.out⟩

theorem do_nil (w : World) : Calls Try.prog 23 #[.nilFunc] w fun e w' => e = .returned (.tuple #[.int .i64 0, .agg #[.int .i64 0], .bool false]) ∧ Below w.heap.size w w' := by
  have hnil := nil_nil43
  go_enter Try.func23, Try.ntmps23
  go_wp2_with fail
  go_region
  go_wp2_with fail
  exact bodyPost_ret (v := .tuple #[.int .i64 0, .agg #[.int .i64 0], .bool false]) (by simp [results, Try.results23, go_sem]) rfl ⟨rfl, ((((Below.refl _ _).alloc (Nat.le_refl _) _).alloc (by simp) _).alloc (by simp; omega) _).drew⟩
end Go.Proofs.Ytdkgjllpmfanlaa
