/- The walk of law05.same once more: it only draws; a reset deframer tells as a new one, but for the counts. -/
import Derived.Test.YthhbohpmbkdkeaaPi
import Derived.Test.YthhbohpmbkdkeaaRw
import Derived.Deep.QuietTactic
import Derived.BigQuiet
import Derived.IntWalk
namespace Go.Proofs.Ythhbohpmbkdkeaa
open Go.RowKit

theorem TextAt.drewN {w : World} {v : Value} {bs : List Int} (h : TextAt w v bs) (n : Nat) : TextAt (w.drewN n) v bs := h

set_option maxHeartbeats 4000000 in
theorem same_draws (n : Nat) (va vb : Value) (fa fb : Nat → Value) (xs : Nat → List Int) (w : World) (hn : (n : Int) ≤ 1000000) (ha : SliceOf w va n fa) (hb : SliceOf w vb n fb) (ta : ∀ j, j < n → TextAt w (fa j) (xs j)) (tb : ∀ j, j < n → TextAt w (fb j) (xs j)) :
    Calls Try.prog 14 #[va, vb] w fun e w' => e = .returned (.bool true) ∧ ∃ q, w' = w.drewN q := by
  obtain ⟨p, cp, rfl, ha⟩ := ha
  obtain ⟨q, cq, rfl, hb⟩ := hb
  have HA := Lib.hid ha
  have HB := Lib.hid hb
  have TA := Lib.hid ta
  have TB := Lib.hid tb
  clear ha hb ta tb
  go_enter Try.func14, Try.ntmps14
  go_wp2_with fail
  go_loopw [13] (fun i wr => ∃ j q : Nat, i = .int .i64 j ∧ j ≤ n ∧ wr = w.drewN q) (fun i _ => n - (intOf i).toNat)
  case atStart => exact ⟨0, 0, rfl, by omega, rfl⟩
  case round =>
    obtain ⟨j, qq, rfl, hj, hwr⟩ := hrel
    by_cases hlt : j < n
    · have hjb : decide ((j : Int) < (n : Int)) = true := by simp; omega
      obtain ⟨b, off, rfl, h1⟩ := HA.out j hlt
      obtain ⟨b2, off2, rfl, h2⟩ := HB.out j hlt
      replace h1 : wr.cell? ⟨b, off + j, none⟩ = some (fa j) := by rw [hwr]; exact h1
      replace h2 : wr.cell? ⟨b2, off2 + j, none⟩ = some (fb j) := by rw [hwr]; exact h2
      have t1 : TextAt wr.drew (fa j) (xs j) := by rw [hwr]; exact TA.out j hlt
      have t2 : TextAt wr.drew (fb j) (xs j) := by rw [hwr]; exact TB.out j hlt
      obtain ⟨⟨a1, a2, a3, e1⟩, c1⟩ := t1.conv
      obtain ⟨⟨b1, b2', b3, e2⟩, c2⟩ := t2.conv
      rw [e1] at h1 c1
      rw [e2] at h2 c2
      have hs := str_same (strOfNums (xs j))
      generalize strOfNums (xs j) = S at c1 c2 hs
      have HW := Lib.hid hwr
      clear e1 e2 t1 t2 hwr
      go_wp2_with fail
      go_region
      go_wp2_with fail
      go_roundw
      case rel => exact ⟨j + 1, qq + 1, by go_num, by omega, by rw [HW.out]; rfl⟩
      case measure => simp [intOf]; omega
    · have hjb : decide ((j : Int) < (n : Int)) = false := by simp; omega
      have HW := Lib.hid hwr
      clear hwr
      go_wp2_with fail
      go_ret
      exact ⟨rfl, qq, HW.out⟩

/-- the counts shifted -/
def St.plus (s : St) (j o b : Int) : St := { s with junk := s.junk + j, over := s.over + o, broken := s.broken + b }
theorem lay_plus (s : St) (j o b : Int) (xs : List Int) : (s.plus j o b).lay xs = (s.lay xs).plus j o b := by
  unfold St.lay
  by_cases h : s.most < (s.now ++ xs).length
  · rw [if_pos h, if_pos (by exact h)]
    simp only [St.plus, St.outside]
    congr 1
    omega
  · rw [if_neg h, if_neg (by exact h)]
    rfl
theorem step_plus (s : St) (j o b c : Int) : (s.plus j o b).step c = (s.step c).plus j o b := by
  unfold St.step
  by_cases h1 : s.inn = false
  · rw [if_pos h1, if_pos (by exact h1)]
    by_cases h2 : c = 11
    · rw [if_pos h2, if_pos h2]; rfl
    · rw [if_neg h2, if_neg h2]; simp only [St.plus]; congr 1; omega
  · rw [if_neg h1, if_neg (by exact h1)]
    by_cases h2 : c = 11
    · rw [if_pos h2, if_pos h2]; simp only [St.plus, St.begin]; congr 1; omega
    · rw [if_neg h2, if_neg h2]
      by_cases h3 : s.fin = true ∧ c = 13
      · rw [if_pos h3, if_pos (by exact h3)]; rfl
      · rw [if_neg h3, if_neg (by exact h3)]
        by_cases h4 : c = 28 ∧ s.fin = false
        · rw [if_pos h4, if_pos (by exact h4)]; rfl
        · rw [if_neg h4, if_neg (by exact h4)]
          by_cases h5 : c = 28
          · rw [if_pos h5, if_pos h5, lay_plus]
          · rw [if_neg h5, if_neg h5]
            by_cases h6 : s.fin = true
            · rw [if_pos h6, if_pos (by exact h6)]
              exact lay_plus { s with fin := false } j o b _
            · rw [if_neg h6, if_neg (by exact h6), lay_plus]
theorem feed_plus : ∀ (bs : List Int) (s : St) (j o b : Int), (s.plus j o b).feed bs = (s.feed bs).plus j o b := by
  intro bs
  induction bs with
  | nil => intro s j o b; rfl
  | cons c bs ih =>
    intro s j o b
    show ((s.plus j o b).step c).feed bs = ((s.step c).feed bs).plus j o b
    rw [step_plus, ih]

/-- behind a reset it is as new, but for the counts -/
theorem outside_fresh (s : St) : s.nf.outside = (St.fresh s.most).plus s.junk s.over s.broken := by
  unfold St.nf St.outside St.fresh St.plus
  simp
end Go.Proofs.Ythhbohpmbkdkeaa
