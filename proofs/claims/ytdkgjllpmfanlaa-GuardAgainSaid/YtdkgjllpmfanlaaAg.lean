/- The walk of law03.GuardAgain. -/
import Derived.Test.YtdkgjllpmfanlaaGb
namespace Go.Proofs.Ytdkgjllpmfanlaa
open Go.RowKit

set_option maxRecDepth 100000 in
set_option maxHeartbeats 4000000 in
theorem again_any (p : Option Addr) (n cp : Nat) (K X : Nat → Int) (w : World) (hc : StepsAt w p n K X) :
    Calls Try.prog 3 #[.slice p n cp] w fun e w' => e = .returned (.bool true) ∧ Below w.heap.size w w' := by
  have HC := Lib.hid hc
  obtain ⟨i0, hi, hz0, hz1, hz2⟩ : ∃ i0, Try.prog.info? 1 = some i0 ∧ i0.zero = some .nilFunc ∧ i0.size = 1 ∧ i0.bytes = 8 := info_parts (by kernel_rfl)
  have HI := Lib.hid (And.intro hi (And.intro hz0 (And.intro hz1 hz2)))
  clear hi hz0 hz1 hz2
  clear hc
  go_enter Try.func3, Try.ntmps3
  go_wp2_with fail
  refine (alive_any _).mono ?_
  rintro e w1 ⟨rfl, hq⟩
  by_cases hn : n ≤ 100
  · have hnb : decide ((100 : Int) < (n : Int)) = false := by simp; omega
    go_wp2_with fail
    have h0 : Built w1 11 w1.heap.size K X (fun _ => 0) 0 (.slice none 0 0) (w1.alloc (.cells #[.int .i64 0] 3)) :=
      Built.start 11 K X _ (by simp [go_sem]) (by simp [go_sem]) ((Below.refl _ _).alloc (Nat.le_refl _) _) (by simp)
    have H0 := Lib.hid h0
    clear h0
    go_loopw [4, 21] (fun v i wr => ∃ (k : Nat) (bx : Nat → Nat), i = .int .i64 k ∧ k ≤ n ∧ Built w1 11 w1.heap.size K X bx k v wr) (fun _ i _ => n - (intOf i).toNat)
    case atStart => exact ⟨0, _, rfl, by omega, H0.out⟩
    case round =>
      obtain ⟨k, bx, rfl, hk, hB⟩ := hrel
      have HB := Lib.hid hB
      clear hB H0
      by_cases hlt : k < n
      · obtain ⟨b, off, rfl, h0, h1⟩ := HC.out k hlt
        have hkb : decide ((k : Int) < (n : Int)) = true := by simp; omega
        have hbl : b < w.heap.size := World.block_lt_of_cell? w ⟨b, off + k * 2, none⟩ h0
        have hkp := hq.trans ((HB.out.kept).mono hq.size)
        have hown := HB.out.own
        have h0' : wr.cell? ⟨b, off + k * 2, none⟩ = some (.int .i64 (K k)) := (hkp.cell (p := ⟨b, off + k * 2, none⟩) hbl).trans h0
        have h1' : wr.cell? ⟨b, off + k * 2 + 1, none⟩ = some (.int .i64 (X k)) := (hkp.cell (p := ⟨b, off + k * 2 + 1, none⟩) hbl).trans h1
        have HO := Lib.hid hown
        clear hown h0 h1
        go_wp2_with (first
          | (at_builtin; refine wpList_append_own _ rfl _ _ 24 rfl (w1.heap.size + 1) 1 i0 .nilFunc 1 8 Try.underlying24 HI.out.1 HI.out.2.1 HI.out.2.2.1 HI.out.2.2.2 rfl (by decide) _ _ _ rfl ((HO.out.alloc _).alloc _) ⟨wr.heap.size + 1, 0, none⟩ 1 1 [clo 11 w1.heap.size wr.heap.size] rfl rfl ?c1 ?c2 ?c3 ?c4 ?c5 ?_)
          | fail)
        case c1 =>
          intro j u hj
          match j, hj with
          | 0, hj => simp at hj; subst hj; simp [Addr.add, go_sem]
        case c2 => intro u hu; simp at hu; subst hu; rfl
        case c3 => unfold maxLen; omega
        case c4 => omega
        case c5 => have := HB.out.size; simp; omega
        intro v' w2 hown' hgrow _
        have HB2 := Lib.hid (HB.out.round hown' hgrow)
        clear hown' hgrow
        go_wp2_with fail
        go_roundw
        case rel => exact ⟨k + 1, _, by go_num, by omega, HB2.out⟩
        case measure => simp [intOf]; omega
      · have hkb : decide ((k : Int) < (n : Int)) = false := by simp; omega
        have hkn : k = n := by omega
        subst hkn
        rcases HB.out.ready with ⟨rfl, rfl⟩ | ⟨b, cq, rfl, hl, hr, hcq, hmx⟩
        · have hc := HB.out.cell
          have hq3 := hq.trans (HB.out.kept.mono hq.size)
          go_wp2_with fail
          go_loopw [7] (fun i w' => i = .int .i64 0 ∧ w' = wr) (fun _ _ => 0)
          case atStart => exact ⟨rfl, rfl⟩
          case round =>
            obtain ⟨rfl, rfl⟩ := hrel
            go_wp2_with fail
            exact bodyPost_ret (v := .bool true) (by simp [results, Try.results3, go_sem]) rfl ⟨rfl, hq3⟩
        · have HL := Lib.hid hl
          have HR := Lib.hid hr
          have HMX : Hid (cq ≤ maxLen) := Lib.hid hmx
          clear hl hr hmx
          have hqk := hq.trans (HB.out.kept.mono hq.size)
          have HA : Hid (∀ w', Below w1.heap.size w1 w' → StepsAt w' p k K X) := Lib.hid (fun w' hb => HC.out.below (hq.trans (hb.mono hq.size)))
          go_wp2_with fail
          go_loopw [7] (fun i w' => ∃ j : Nat, i = .int .i64 j ∧ j ≤ k + 1 ∧ wr.heap.size ≤ w'.heap.size ∧ Ready w1 11 w1.heap.size b k K X bx (min j k : Nat) w') (fun i _ => k + 1 - (intOf i).toNat)
          case atStart => exact ⟨0, rfl, by omega, Nat.le_refl _, by simpa using HR.out⟩
          case round =>
            obtain ⟨j, rfl, hj, hsz, hrd⟩ := hrel
            clear HR
            have HR := Lib.hid hrd
            clear hrd
            by_cases hjk : j < k
            · have hjb : decide ((j : Int) < (k : Int)) = true := by simp; omega
              go_wp2_with fail
              refine (row_ready 11 (enters_of Try.func11 (by decide) rfl) (fun i => ((j + i : Nat) : Int)) w1 w1.heap.size b k j (k - j) (cq - j) K X bx (by omega) (by omega)
                (fun i s w' hi hs hkk hne h1 h2 h3 h4 => by
                  subst hs
                  exact c11_go w1.heap.size (bx (j + i)) _ _ _ w' hkk (by omega) h1 h2 hne h3 h4)
                (fun i s w' hi hs hkk hne h1 h2 h3 h4 => by
                  subst hs
                  exact c11_stop w1.heap.size (bx (j + i)) _ _ _ w' hkk (by omega) h1 h2 hne h3 h4)
                wr (HL.out.mono hsz) (by have := HR.out; rw [show min j k = j from by omega] at this; exact this)).mono ?_
              rintro e w3 ⟨rfl, hs3, hr3⟩
              have HR3 := Lib.hid hr3
              clear hr3
              rcases hf : firstStop (fun i => opOf K X (j + i)) 0 (k - j) with _ | ⟨i, c⟩
              · unfold rowTold
                rw [hf] at HR3
                clear hf
                obtain ⟨r, hr⟩ : ∃ r, k - j = r := ⟨_, rfl⟩
                rw [hr] at HR3 ⊢
                have hb1 : decide ((r : Int) < 0) = false := by simp
                have hb2 : decide ((k : Int) - (j : Int) < (r : Int)) = false := by simp; omega
                have hb3 : decide ((r : Int) < (k : Int) - (j : Int)) = false := by simp; omega
                have HR4 : Hid (Ready w1 11 w1.heap.size b k K X bx (min (j + (r + 1)) k : Nat) (w3.alloc (Obj.cells #[Value.int IntKind.i64 0] 28)).drew) := by
                  have := HR3.out
                  rw [show j + rowCalled r none = min (j + (r + 1)) k from by simp only [rowCalled]; omega] at this
                  exact this.below (HL.out.mono (Nat.le_trans hsz hs3)) ((Below.refl _ _).alloc (Nat.le_refl _) _).drew
                go_wp2_with fail
                go_region
                go_wp2_with fail
                go_roundw
                case rel => exact ⟨j + (r + 1), by go_num, by omega, by simp [World.drew]; omega, HR4.out⟩
                case measure => simp [intOf]; omega
              · unfold rowTold
                obtain ⟨-, hi, ho⟩ := firstStop_some hf
                rw [hf] at HR3
                clear hf
                have hb1 : decide ((i : Int) < 0) = false := by simp
                have hb2 : decide ((k : Int) - (j : Int) < (i : Int)) = false := by simp; omega
                have hb3 : decide ((i : Int) < (k : Int) - (j : Int)) = true := by simp; omega
                have hKX : K (j + i) = 1 ∧ X (j + i) = c := by
                  simp only [opOf] at ho
                  split at ho <;> simp_all
                obtain ⟨b', off, rfl, h0, h1⟩ := HA.out w3 HR3.out.kept (j + i) (by omega)
                rw [hKX.1] at h0
                rw [hKX.2] at h1
                have hbl : b' < w3.heap.size := World.block_lt_of_cell? w3 _ h0
                clear hKX ho
                have HR4 : Hid (Ready w1 11 w1.heap.size b k K X bx (min (j + (i + 1)) k : Nat) (w3.alloc (Obj.cells #[Value.int IntKind.i64 c] 28)).drew) := by
                  have := HR3.out
                  rw [show j + rowCalled (k - j) (some (i, c)) = min (j + (i + 1)) k from by simp only [rowCalled]; omega] at this
                  exact this.below (HL.out.mono (Nat.le_trans hsz hs3)) ((Below.refl _ _).alloc (Nat.le_refl _) _).drew
                go_wp2_with fail
                go_region
                go_wp2_with fail
                go_roundw
                case rel => exact ⟨j + (i + 1), by go_num, by omega, by simp [World.drew]; omega, HR4.out⟩
                case measure => simp [intOf]; omega
            · have hjb : decide ((j : Int) < (k : Int)) = false := by simp; omega
              have hc := HR.out.cell
              rw [show min j k = k from by omega] at hc
              have hq3 := hq.trans (HR.out.kept.mono hq.size)
              go_wp2_with fail
              exact bodyPost_ret (v := .bool true) (by simp [results, Try.results3, go_sem]) rfl ⟨rfl, hq3⟩
  · have hnb : decide ((100 : Int) < (n : Int)) = true := by simp; omega
    go_wp2_with fail
    refine (alive_any _).mono ?_
    rintro e w2 ⟨rfl, hq2⟩
    go_wp2_with fail
    exact bodyPost_ret (v := .bool true) (by simp [results, Try.results3, go_sem]) rfl ⟨rfl, hq.trans (hq2.mono hq.size)⟩
end Go.Proofs.Ytdkgjllpmfanlaa
