/- The walk of law03.GuardRows. -/
import Derived.Test.YtdkgjllpmfanlaaGb
namespace Go.Proofs.Ytdkgjllpmfanlaa
open Go.RowKit

set_option maxRecDepth 100000 in
set_option maxHeartbeats 4000000 in
theorem rows_any (p : Option Addr) (n cp : Nat) (K X : Nat → Int) (w : World) (hc : StepsAt w p n K X) :
    Calls Try.prog 4 #[.slice p n cp] w fun e w' => e = .returned (.bool true) ∧ Below w.heap.size w w' := by
  have HC := Lib.hid hc
  obtain ⟨i0, hi, hz0, hz1, hz2⟩ : ∃ i0, Try.prog.info? 1 = some i0 ∧ i0.zero = some .nilFunc ∧ i0.size = 1 ∧ i0.bytes = 8 := info_parts (by kernel_rfl)
  have HI := Lib.hid (And.intro hi (And.intro hz0 (And.intro hz1 hz2)))
  clear hi hz0 hz1 hz2
  clear hc
  go_enter Try.func4, Try.ntmps4
  go_wp2_with fail
  refine (alive_any _).mono ?_
  rintro e w1 ⟨rfl, hq⟩
  by_cases hn : n ≤ 300
  · have hnb : decide ((300 : Int) < (n : Int)) = false := by simp; omega
    go_wp2_with fail
    have h0 : Built w1 13 w1.heap.size K X (fun _ => 0) 0 (.slice none 0 0) (w1.alloc (.cells #[.int .i64 0] 3)) :=
      Built.start 13 K X _ (by simp [go_sem]) (by simp [go_sem]) ((Below.refl _ _).alloc (Nat.le_refl _) _) (by simp)
    have H0 := Lib.hid h0
    clear h0
    go_loopw [4, 24] (fun v i wr => ∃ (k : Nat) (bx : Nat → Nat), i = .int .i64 k ∧ k ≤ n ∧ Built w1 13 w1.heap.size K X bx k v wr) (fun _ i _ => n - (intOf i).toNat)
    case atStart => exact ⟨0, _, rfl, by omega, H0.out⟩
    case round =>
      obtain ⟨k, bx, rfl, hk, hB⟩ := hrel
      have HB := Lib.hid hB
      clear hB H0
      by_cases hlt : k < n
      · obtain ⟨b, off, rfl, h0, h1⟩ := HC.out k hlt
        have hkb : decide ((k : Int) < (n : Int)) = true := by simp; omega
        have hbl : b < w.heap.size := World.block_lt_of_cell? w ⟨b, off + k * 2, none⟩ h0
        have hkp := hq.trans ((HB.out.kept).mono hq.size)
        have hown := HB.out.own
        have h0' : wr.cell? ⟨b, off + k * 2, none⟩ = some (.int .i64 (K k)) := (hkp.cell (p := ⟨b, off + k * 2, none⟩) hbl).trans h0
        have h1' : wr.cell? ⟨b, off + k * 2 + 1, none⟩ = some (.int .i64 (X k)) := (hkp.cell (p := ⟨b, off + k * 2 + 1, none⟩) hbl).trans h1
        have HO := Lib.hid hown
        clear hown h0 h1
        go_wp2_with (first
          | (at_builtin; refine wpList_append_own _ rfl _ _ 24 rfl (w1.heap.size + 1) 1 i0 .nilFunc 1 8 Try.underlying24 HI.out.1 HI.out.2.1 HI.out.2.2.1 HI.out.2.2.2 rfl (by decide) _ _ _ rfl ((HO.out.alloc _).alloc _) ⟨wr.heap.size + 1, 0, none⟩ 1 1 [clo 13 w1.heap.size wr.heap.size] rfl rfl ?c1 ?c2 ?c3 ?c4 ?c5 ?_)
          | fail)
        case c1 =>
          intro j u hj
          match j, hj with
          | 0, hj => simp at hj; subst hj; simp [Addr.add, go_sem]
        case c2 => intro u hu; simp at hu; subst hu; rfl
        case c3 => unfold maxLen; omega
        case c4 => omega
        case c5 => have := HB.out.size; simp; omega
        intro v' w2 hown' hgrow _
        have HB2 := Lib.hid (HB.out.round hown' hgrow)
        clear hown' hgrow
        go_wp2_with fail
        go_roundw
        case rel => exact ⟨k + 1, _, by go_num, by omega, HB2.out⟩
        case measure => simp [intOf]; omega
      · have hkb : decide ((k : Int) < (n : Int)) = false := by simp; omega
        have hkn : k = n := by omega
        subst hkn
        go_wp2_with fail
        refine (HB.out.called (enters_of Try.func13 (by decide) rfl) (sumTo X) rfl (by omega)
          (fun i s b w hi hs hk hne h1 h2 h3 h4 => by
            have := sumTo_le X i
            exact c13_go w1.heap.size b _ (K i) (X i) w hk (by omega) (hs ▸ h1) h2 hne h3 h4)
          (fun i s b w hi hs hk hne h1 h2 h3 h4 => by
            have := sumTo_le X i
            exact c13_stop w1.heap.size b _ (K i) (X i) w hk (by omega) (hs ▸ h1) h2 hne h3 h4)).mono ?_
        rintro e w3 ⟨rfl, hs3, hc3, hb3⟩
        have hm3 : w1.heap.size < w3.heap.size := by have := HB.out.size; omega
        have hq3 := hq.trans (hb3.mono hq.size)
        have hA3 : StepsAt w3 p k K X := HC.out.below hq3
        have HA := Lib.hid hA3
        have HCC := Lib.hid hc3
        clear hA3 hc3
        rcases hf : firstStop (opOf K X) 0 k with _ | ⟨i, c⟩
        · unfold rowTold
          go_wp2_with fail
          refine (refRow_any p k cp K X _ hn (HA.out.below ((Below.refl _ _).alloc (Nat.le_refl _) _))).mono ?_
          rintro e w4 ⟨rfl, hb4⟩
          have hz4 := hb4.size
          simp only [World.size_alloc] at hz4
          have hc4 : w4.cell? ⟨w1.heap.size, 0, none⟩ = some (.int .i64 (sumTo X k)) := by
            rw [hb4.cell (p := ⟨w1.heap.size, 0, none⟩) (by simp; omega), World.cell?_alloc_lt _ _ _ hm3, HCC.out, hf]; rfl
          have hd4 : w4.cell? ⟨w3.heap.size, 0, none⟩ = some (.int .i64 0) := by
            rw [hb4.cell (p := ⟨w3.heap.size, 0, none⟩) (by simp)]; simp [go_sem]
          have hw4 : Below w.heap.size w w4 := hq3.trans (((Below.refl _ _).alloc hq3.size _).trans (hb4.mono (by simp; have := hq3.size; omega)))
          rw [hf, show refTold k (sumTo X) none = .returned (.tuple #[.int .i64 k, .int .i64 0, .bool false, .int .i64 (sumTo X k)]) from rfl]
          generalize sumTo X k = S at hc4 ⊢
          clear hf
          go_wp2_with fail
          exact bodyPost_ret (v := .bool true) (by simp [results, Try.results4, go_sem]) rfl ⟨rfl, hw4⟩
        · unfold rowTold
          go_wp2_with fail
          refine (refRow_any p k cp K X _ hn (HA.out.below ((Below.refl _ _).alloc (Nat.le_refl _) _))).mono ?_
          rintro e w4 ⟨rfl, hb4⟩
          have hz4 := hb4.size
          simp only [World.size_alloc] at hz4
          have hc4 : w4.cell? ⟨w1.heap.size, 0, none⟩ = some (.int .i64 (sumTo X (i + 1))) := by
            rw [hb4.cell (p := ⟨w1.heap.size, 0, none⟩) (by simp; omega), World.cell?_alloc_lt _ _ _ hm3, HCC.out, hf]; rfl
          have hd4 : w4.cell? ⟨w3.heap.size, 0, none⟩ = some (.int .i64 c) := by
            rw [hb4.cell (p := ⟨w3.heap.size, 0, none⟩) (by simp)]; simp [go_sem]
          have hw4 : Below w.heap.size w w4 := hq3.trans (((Below.refl _ _).alloc hq3.size _).trans (hb4.mono (by simp; have := hq3.size; omega)))
          rw [hf, show refTold k (sumTo X) (some (i, c)) = .returned (.tuple #[.int .i64 i, .int .i64 c, .bool true, .int .i64 (sumTo X (i + 1))]) from rfl]
          generalize sumTo X (i + 1) = S at hc4 ⊢
          clear hf
          go_wp2_with fail
          exact bodyPost_ret (v := .bool true) (by simp [results, Try.results4, go_sem]) rfl ⟨rfl, hw4⟩
  · have hnb : decide ((300 : Int) < (n : Int)) = true := by simp; omega
    go_wp2_with fail
    refine (alive_any _).mono ?_
    rintro e w2 ⟨rfl, hq2⟩
    go_wp2_with fail
    exact bodyPost_ret (v := .bool true) (by simp [results, Try.results4, go_sem]) rfl ⟨rfl, hq.trans (hq2.mono hq.size)⟩
end Go.Proofs.Ytdkgjllpmfanlaa
