/- The walk of law04.FrameUnwraps. -/
import Derived.Test.YthhbohpmbkdkeaaDoorFm
namespace Go.Proofs.YthhbohpmbkdkeaaDoor
open Go.RowKit

set_option maxRecDepth 100000 in
set_option maxHeartbeats 4000000 in
theorem unwraps_any (p : Option Addr) (n c : Nat) (bs : List Int) (w : World) (ha : ArgC w p n c bs) (he : Ends w) :
    Calls Tryd.prog 8 #[.slice p n c] w fun e w' => e = .returned (.bool true) ∧ Below w.heap.size w w' := by
  have HA := Lib.hid ha
  have HF := Lib.hid (From.refl he)
  clear ha he
  by_cases hn : n ≤ 3000
  · have hnb : decide ((3000 : Int) < (n : Int)) = false := by simp; omega
    go_enter Tryd.func8, Tryd.ntmps8
    go_wp2_with fail
    refine (unwrap_at HF.out HA.out (by omega)).mono ?_
    rintro e w1 ⟨p1, n1, c1, rfl, ha1, hf, hb⟩
    have HF1 := Lib.hid hf
    have HB1 := Lib.hid hb
    have H1 := Lib.hid ha1
    clear hf hb ha1
    go_wp2_with fail
    refine (runwrap_run p n c bs w1 (HA.out.below HB1.out) (by omega)).mono ?_
    rintro e w2 ⟨p2, n2, c2, rfl, ha2, rfl⟩
    have H2 := Lib.hid ha2
    clear ha2
    generalize (unwrapL bs).1 = y at H1 H2
    generalize (unwrapL bs).2 = f
    go_wp2_with fail
    refine (alive_at HF1.out).mono ?_
    rintro e w3 ⟨rfl, hf, hb⟩
    have HF3 := Lib.hid hf
    have k1 := (H1.out.below hb).conv
    have k2 := (H2.out.below hb).conv
    have hss := str_eq (strOfNums y)
    generalize strOfNums y = S at k1 k2 hss
    clear hf hb
    go_wp2_with fail
    go_ret
    exact ⟨rfl, HF3.out.grew⟩
  · have hnb : decide ((3000 : Int) < (n : Int)) = true := by simp; omega
    go_enter Tryd.func8, Tryd.ntmps8
    go_wp2_with fail
    refine (alive_at HF.out).mono ?_
    rintro e w1 ⟨rfl, hf, -⟩
    have HF1 := Lib.hid hf
    clear hf
    go_wp2_with fail
    go_ret
    exact ⟨rfl, HF1.out.grew⟩
end Go.Proofs.YthhbohpmbkdkeaaDoor
