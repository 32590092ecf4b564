/- The walk of law04.FrameBack. -/
import Derived.Test.YthhbohpmbkdkeaaDoorFm
namespace Go.Proofs.YthhbohpmbkdkeaaDoor
open Go.RowKit

theorem unwrap_no {bs : List Int} (h : (unwrapL bs).2 ≠ 0) : (unwrapL bs).1 = [] := by
  rcases unwrap_err bs with h1 | h1
  · exact absurd h1 h
  · exact h1

set_option maxRecDepth 100000 in
set_option maxHeartbeats 8000000 in
theorem back_any (p : Option Addr) (n c : Nat) (bs : List Int) (w : World) (ha : ArgC w p n c bs) (he : Ends w) :
    Calls Tryd.prog 9 #[.slice p n c] w fun e w' => e = .returned (.bool true) ∧ Below w.heap.size w w' := by
  have HA := Lib.hid ha
  have HF := Lib.hid (From.refl he)
  clear ha he
  by_cases hn : n ≤ 3000
  · have hnb : decide ((3000 : Int) < (n : Int)) = false := by simp; omega
    cases hg : goodL bs
    · go_enter Tryd.func9, Tryd.ntmps9
      go_wp2_with fail
      refine (wrap_no_at HF.out HA.out (by omega) hg).mono ?_
      rintro e w1 ⟨rfl, hf, hb⟩
      have HF1 := Lib.hid hf
      clear hf hb
      go_wp2_with fail
      by_cases hz : (unwrapL bs).2 = 0
      · obtain ⟨hgy, hwy⟩ := unwrap_good (xs := bs) (ys := (unwrapL bs).1) (by rw [← hz])
        refine (unwrap_at HF1.out (HF1.out.arg HA.out) (by omega)).mono ?_
        rintro e w4 ⟨py, ny, cy, rfl, hay, hf, hb⟩
        have hny : ny ≤ 3000 := by
          have h1 := hay.len
          have h2 := congrArg List.length hwy
          rw [wrap_len] at h2
          have h3 := HA.out.len
          omega
        have HY := Lib.hid hay
        have HF4 := Lib.hid hf
        rw [hz]
        have hwy' := hwy
        generalize (unwrapL bs).1 = Y at HY hgy hwy
        clear hay hf hb hwy'
        go_wp2_with fail
        refine (wrap_yes_at HF4.out HY.out (by omega) hgy).mono ?_
        rintro e w5 ⟨pz, cz, rfl, haz, hf, hb⟩
        have HZ := Lib.hid haz
        have HF5 := Lib.hid hf
        clear haz hf hb
        go_wp2_with fail
        refine (alive_at HF5.out).mono ?_
        rintro e w6 ⟨rfl, hf, hb⟩
        have k3 := (HZ.out.below hb).conv
        have k4 := (hf.arg HA.out).conv
        rw [hwy] at k3
        have hs6 := str_eq (strOfNums bs)
        generalize strOfNums bs = S6 at k3 k4 hs6
        have HF6 := Lib.hid hf
        clear hf hb
        go_wp2_with fail
        go_ret
        exact ⟨rfl, HF6.out.grew⟩
      · have hy0 := unwrap_no hz
        refine (unwrap_at HF1.out (HF1.out.arg HA.out) (by omega)).mono ?_
        rintro e w4 ⟨py, ny, cy, rfl, hay, hf, hb⟩
        rw [hy0] at hay
        have hny : ny = 0 := hay.len.symm
        subst hny
        have HF4 := Lib.hid hf
        generalize (unwrapL bs).2 = z at hz
        have hzb : (z == 0) = false := by simpa using hz
        clear hay hf hb
        go_wp2_with fail
        refine (alive_at HF4.out).mono ?_
        rintro e w6 ⟨rfl, hf, -⟩
        have HF6 := Lib.hid hf
        clear hf
        go_wp2_with fail
        go_ret
        exact ⟨rfl, HF6.out.grew⟩
    · go_enter Tryd.func9, Tryd.ntmps9
      go_wp2_with fail
      refine (wrap_yes_at HF.out HA.out (by omega) hg).mono ?_
      rintro e w1 ⟨pf, cf, rfl, haf, hf, hb⟩
      have HV := Lib.hid haf
      have HF1 := Lib.hid hf
      clear haf hf hb
      go_wp2_with fail
      refine (unwrap_at HF1.out HV.out (by omega)).mono ?_
      rintro e w2 ⟨px, nx, cx, rfl, hax, hf, hb⟩
      rw [unwrap_wrap hg] at hax
      have hnx : nx = n := hax.len.symm.trans HA.out.len
      subst hnx
      have HF2 := Lib.hid hf
      have HB2 := Lib.hid hb
      have k1 := hax.conv
      have k2 := (HF2.out.arg HA.out).conv
      have hss := str_eq (strOfNums bs)
      simp only at k1
      generalize strOfNums bs = S at k1 k2 hss
      have e0 : (unwrapL (wrapL bs)).2 = 0 := by rw [unwrap_wrap hg]
      rw [e0]
      clear hax hf hb e0
      go_wp2_with fail
      refine (count_run _ _).mono ?_
      rintro e w3 ⟨rfl, rfl⟩
      rw [count_len _ (by omega)]
      go_wp2_with fail
      refine (good_yes HF2.out (wrap_bad bs) (HV.out.below HB2.out) (by omega)).mono ?_
      clear k1 k2
      rintro e w4 ⟨rfl, hf, -⟩
      have HF3 := Lib.hid hf
      clear hf
      go_wp2_with fail
      by_cases hz : (unwrapL bs).2 = 0
      · obtain ⟨hgy, hwy⟩ := unwrap_good (xs := bs) (ys := (unwrapL bs).1) (by rw [← hz])
        refine (unwrap_at HF3.out (HF3.out.arg HA.out) (by omega)).mono ?_
        rintro e w4 ⟨py, ny, cy, rfl, hay, hf, hb⟩
        have hny : ny ≤ 3000 := by
          have h1 := hay.len
          have h2 := congrArg List.length hwy
          rw [wrap_len] at h2
          have h3 := HA.out.len
          omega
        have HY := Lib.hid hay
        have HF4 := Lib.hid hf
        rw [hz]
        have hwy' := hwy
        generalize (unwrapL bs).1 = Y at HY hgy hwy
        clear hay hf hb hwy'
        go_wp2_with fail
        refine (wrap_yes_at HF4.out HY.out (by omega) hgy).mono ?_
        rintro e w5 ⟨pz, cz, rfl, haz, hf, hb⟩
        have HZ := Lib.hid haz
        have HF5 := Lib.hid hf
        clear haz hf hb
        go_wp2_with fail
        refine (alive_at HF5.out).mono ?_
        rintro e w6 ⟨rfl, hf, hb⟩
        have k3 := (HZ.out.below hb).conv
        have k4 := (hf.arg HA.out).conv
        rw [hwy] at k3
        have hs6 := str_eq (strOfNums bs)
        generalize strOfNums bs = S6 at k3 k4 hs6
        have HF6 := Lib.hid hf
        clear hf hb
        go_wp2_with fail
        go_ret
        exact ⟨rfl, HF6.out.grew⟩
      · have hy0 := unwrap_no hz
        refine (unwrap_at HF3.out (HF3.out.arg HA.out) (by omega)).mono ?_
        rintro e w4 ⟨py, ny, cy, rfl, hay, hf, hb⟩
        rw [hy0] at hay
        have hny : ny = 0 := hay.len.symm
        subst hny
        have HF4 := Lib.hid hf
        generalize (unwrapL bs).2 = z at hz
        have hzb : (z == 0) = false := by simpa using hz
        clear hay hf hb
        go_wp2_with fail
        refine (alive_at HF4.out).mono ?_
        rintro e w6 ⟨rfl, hf, -⟩
        have HF6 := Lib.hid hf
        clear hf
        go_wp2_with fail
        go_ret
        exact ⟨rfl, HF6.out.grew⟩
  · have hnb : decide ((3000 : Int) < (n : Int)) = true := by simp; omega
    go_enter Tryd.func9, Tryd.ntmps9
    go_wp2_with fail
    refine (alive_at HF.out).mono ?_
    rintro e w1 ⟨rfl, hf, -⟩
    have HF1 := Lib.hid hf
    clear hf
    go_wp2_with fail
    go_ret
    exact ⟨rfl, HF1.out.grew⟩
end Go.Proofs.YthhbohpmbkdkeaaDoor
