/- The walks of the sender statements' own helpers: 'config', 'alive'. No condition but the bounds named. -/
import Derived.Test.YtlhpmnnbjkbahaaSg
namespace Go.Proofs.Ytlhpmnnbjkbahaa
open Go.RowKit

def kk (n : Int) : Int := n % 18446744073709551616 % 1048576
theorem kk_bounds (n : Int) : 0 ≤ kk n ∧ kk n ≤ 1048575 := by unfold kk; omega

theorem kk_any (n : Int) (w : World) : Calls Try.prog 52 #[.int .i64 n] w fun e w' => e = .returned (.int .i64 (kk n)) ∧ w = w' := by
  go_enter Try.func52, Try.ntmps52
  go_wp2
  go_ret
  refine ⟨?_, rfl⟩
  show Ending.returned (.int .i64 (wrap64 ((IntKind.u64.wrap n).tmod 1048576))) = _
  rw [IntKind.wrap_u64, Int.tmod_eq_emod_of_nonneg (by omega), IntWalk.wrap64_in _ (by omega)]
  rfl

/-- the config of the statements -/
def conf (x y z : Int) (F : Nat) : Cf := ⟨0, kk x, kk y, 1 + kk z, F⟩
theorem conf_ok (x y z : Int) (F : Nat) : (conf x y z F).Ok := by
  have h1 := kk_bounds x
  have h2 := kk_bounds y
  have h3 := kk_bounds z
  exact ⟨h1.1, by show kk x ≤ _; omega, h2.1, by show kk y ≤ _; omega, by show 1 ≤ 1 + kk z; omega, by show 1 + kk z ≤ _; omega⟩

set_option maxHeartbeats 1000000 in
theorem config_any (x y z bits : Int) (w : World) :
    Calls Try.prog 33 #[.agg #[.int .i64 x, .int .i64 y, .int .i64 z], .int .u64 bits] w fun e w' => e = .returned (cfg 0 (kk x) (kk y) (1 + kk z) bits.toNat) ∧ Below w.heap.size w w' := by
  have hf := run_frombits
  have b3 := kk_bounds z
  obtain ⟨X, hX⟩ : ∃ X, X = kk x := ⟨_, rfl⟩
  obtain ⟨Y, hY⟩ : ∃ Y, Y = kk y := ⟨_, rfl⟩
  obtain ⟨Z, hZ⟩ : ∃ Z, Z = kk z := ⟨_, rfl⟩
  rw [← hZ] at b3
  have k1 : ∀ w, Calls Try.prog 52 #[.int .i64 x] w fun e w' => e = .returned (.int .i64 X) ∧ w = w' := fun w => by rw [hX]; exact kk_any x w
  have k2 : ∀ w, Calls Try.prog 52 #[.int .i64 y] w fun e w' => e = .returned (.int .i64 Y) ∧ w = w' := fun w => by rw [hY]; exact kk_any y w
  have k3 : ∀ w, Calls Try.prog 52 #[.int .i64 z] w fun e w' => e = .returned (.int .i64 Z) ∧ w = w' := fun w => by rw [hZ]; exact kk_any z w
  have K1 := Lib.hid k1
  have K2 := Lib.hid k2
  have K3 := Lib.hid k3
  have HX := Lib.hid (And.intro hX (And.intro hY hZ))
  clear k1 k2 k3 hX hY hZ
  have hw : IntKind.i64.wrap (1 + Z) = 1 + Z := IntWalk.i64_in _ (by omega)
  go_enter Try.func33, Try.ntmps33
  go_wp2_with fail
  go_region_held3 (fun w' => w'.cell? ⟨w.heap.size, 0, none⟩ = some (.int .i64 x) ∧ w'.cell? ⟨w.heap.size, 1, none⟩ = some (.int .i64 y) ∧ w'.cell? ⟨w.heap.size, 2, none⟩ = some (.int .i64 z)) (first | go_keep)
    (first | (go_at_call 52; first | (refine (K1.out _).mono ?_; rintro e w1 ⟨rfl, rfl⟩) | (refine (K2.out _).mono ?_; rintro e w1 ⟨rfl, rfl⟩) | (refine (K3.out _).mono ?_; rintro e w1 ⟨rfl, rfl⟩)))
  obtain ⟨rfl, rfl, rfl⟩ := HX.out
  clear hf b3 hw K1 K2 K3 HX
  go_wp2_with fail
  refine bodyPost_ret (v := cfg 0 (kk x) (kk y) (1 + kk z) bits.toNat) (by simp [results, Try.results33, go_sem]) rfl ⟨rfl, ?_⟩
  exact ((((Below.refl _ _).alloc (Nat.le_refl _) _).alloc (by simp) _).drew)

/-- the example's config -/
def alC : Cf := ⟨0, 3, 20, 5, 4611686018427387904⟩
theorem alC_ok : alC.Ok := ⟨by decide, by decide, by decide, by decide, by decide, by decide⟩
theorem alC_dl : alC.dl 0 = 3 := al_next (k := 0) (j := 0) (by omega) (by omega)
theorem al_tick6 : Sn.tick alC ⟨0, 2, 1, 5, 0⟩ 6 = ⟨0, 2, 2, 2, 1⟩ := by
  have e : Sn.fail alC ⟨0, 2, 1, 5, 0⟩ = ⟨0, 2, 2, 3, 1⟩ := by
    rw [Sn.fail, alC_dl]; rfl
  rw [Sn.tick, if_pos rfl, if_neg (by decide), e]
  rfl
theorem al_tick2 : Sn.tick alC ⟨0, 2, 2, 2, 1⟩ 2 = ⟨0, 2, 0, 0, 1⟩ := by
  rw [Sn.tick, if_neg (by decide)]
  rfl

set_option maxHeartbeats 1000000 in
theorem salive_any (w : World) : Calls Try.prog 28 #[] w fun e w' => e = .returned (.bool true) ∧ Below w.heap.size w w' := by
  go_enter Try.func28, Try.ntmps28
  go_wp2_with fail
  refine (snew_ok alC 0 w alC_ok (by decide) (by decide)).mono ?_
  rintro e w1 ⟨b, rfl, hb, h1, m1⟩
  have B1 := Lib.hid (And.intro h1 (And.intro hb m1))
  clear h1 hb m1
  go_wp2_with fail
  refine (offer_ok b alC ⟨0, 0, 0, 0, 0⟩ 2 _ (by decide) (by decide) B1.out.1).mono ?_
  rintro e w2 ⟨rfl, h2, m2⟩
  have B2 := Lib.hid (And.intro h2 m2)
  clear h2 m2
  go_wp2_with fail
  refine (poll_ok b alC ⟨0, 2, 0, 0, 0⟩ _ rfl rfl (by decide) B2.out.1).mono ?_
  rintro e w3 ⟨rfl, h3, m3⟩
  have B3 := Lib.hid (And.intro h3 m3)
  clear h3 m3
  go_wp2_with fail
  have o3 : Sn.Ok alC ⟨0, 2, 1, 5, 0⟩ := ⟨by decide, by decide, by decide, by decide, by decide, .inr (.inl ⟨rfl, by decide, by decide, by decide⟩)⟩
  refine (tick_any b alC ⟨0, 2, 1, 5, 0⟩ 6 _ alC_ok o3 (by decide) (by decide) B3.out.1).mono ?_
  rintro e w4 ⟨rfl, h4, m4⟩
  rw [al_tick6] at h4
  have B4 := Lib.hid (And.intro h4 m4)
  clear h4 m4 o3
  go_wp2_with fail
  refine (left_run b alC ⟨0, 2, 2, 2, 1⟩ _ B4.out.1).mono ?_
  rintro e w' ⟨rfl, rfl⟩
  go_wp2_with fail
  have o4 : Sn.Ok alC ⟨0, 2, 2, 2, 1⟩ := ⟨by decide, by decide, by decide, by decide, by decide, .inr (.inr ⟨rfl, by decide, by decide⟩)⟩
  refine (tick_any b alC ⟨0, 2, 2, 2, 1⟩ 2 _ alC_ok o4 (by decide) (by decide) B4.out.1).mono ?_
  rintro e w5 ⟨rfl, h5, m5⟩
  rw [al_tick2] at h5
  have B5 := Lib.hid (And.intro h5 m5)
  clear h5 m5 o4
  go_wp2_with fail
  refine (poll_ok b alC ⟨0, 2, 0, 0, 1⟩ _ rfl rfl (by decide) B5.out.1).mono ?_
  rintro e w6 ⟨rfl, h6, m6⟩
  have B6 := Lib.hid (And.intro h6 m6)
  clear h6 m6
  have o6 : Sn.Ok alC ⟨0, 2, 1, 5, 1⟩ := ⟨by decide, by decide, by decide, by decide, by decide, .inr (.inl ⟨rfl, by decide, by decide, by decide⟩)⟩
  have O6 := Lib.hid o6
  clear o6
  go_wp2_with (first
    | (go_at_call 37; refine (tries_run b alC ⟨0, 2, 1, 5, 1⟩ _ B6.out.1).mono ?_; rintro e w' ⟨rfl, rfl⟩)
    | (go_at_call 31; refine (answer_ok b alC ⟨0, 2, 1, 5, 1⟩ _ O6.out rfl B6.out.1).mono ?_; rintro e w7 ⟨rfl, h7, m7⟩; have B7 := Lib.hid (And.intro h7 m7); clear h7 m7)
    | (go_at_call 32; refine (at_run b alC ⟨1, 2, 0, 0, 0⟩ _ B7.out.1).mono ?_; rintro e w' ⟨rfl, rfl⟩)
    | (go_at_call 35; refine (fly_not b alC ⟨1, 2, 0, 0, 0⟩ _ B7.out.1 (by decide)).mono ?_; rintro e w' ⟨rfl, rfl⟩))
  go_ret
  refine ⟨rfl, ?_⟩
  have hb := B1.out.2.1
  have m := ((((B2.out.2.trans B3.out.2 (fun _ _ h => h)).trans B4.out.2 (fun _ _ h => h)).trans B5.out.2 (fun _ _ h => h)).trans B6.out.2 (fun _ _ h => h)).trans B7.out.2 (fun _ _ h => h)
  exact Moved.below B1.out.2.2 m (fun i h => by omega)
end Go.Proofs.Ytlhpmnnbjkbahaa
