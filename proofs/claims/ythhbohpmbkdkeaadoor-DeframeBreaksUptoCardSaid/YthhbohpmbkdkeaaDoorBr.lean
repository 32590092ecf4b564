/- The walk of law05.DeframeBreaks. -/
import Derived.Test.YthhbohpmbkdkeaaDoorFm
import Derived.Test.YthhbohpmbkdkeaaDoorPl
import Derived.Test.YthhbohpmbkdkeaaDoorAl
import Derived.Test.YthhbohpmbkdkeaaDoorJu
import Derived.Deep.QuietTactic
import Derived.BigQuiet
namespace Go.Proofs.YthhbohpmbkdkeaaDoor
open Go.RowKit

theorem ArgC.init {w : World} {p : Option Addr} {n c : Nat} {bs : List Int} (h : ArgC w p n c bs) (k : Nat) (hk : k ≤ n) : ArgC w p k c (bs.take k) := by
  refine ⟨⟨by rw [List.length_take, h.len]; omega, fun j x hj => ?_, fun x hx => h.byte x (List.mem_of_mem_take hx)⟩, by have := h.cap; omega, fun e => by have := h.nil e; omega⟩
  have hjl := (List.getElem?_eq_some_iff.1 hj).1
  rw [List.length_take] at hjl
  rw [List.getElem?_take_of_lt (by omega)] at hj
  exact h.at_ j x hj

/-- bytes that lay before the deframer was made may be fed to it -/
theorem src_of {w w' : World} {B bd : Nat} {nv fv : Value} {vs : List Value} {s : St} {p : Option Addr} {n c : Nat} {bs : List Int} (h : ArgC w p n c bs) (hb : Below w.heap.size w w') (hd : DAt B bd nv fv vs s w') (hbd : w.heap.size ≤ bd) : Src w' bd nv p bs := by
  intro j x hj
  obtain ⟨b, off, hp, hc⟩ := h.at_ j x hj
  have hlt := World.block_lt_of_cell? w _ hc
  simp only at hlt
  refine ⟨b, off, hp, by omega, fun e => ?_, below_keeps hb hc⟩
  have := (hd.now.lt b e.symm).1
  have := hd.low
  omega

theorem part_of (at_ : Int) {n : Nat} (hn : n ≤ 1000) : ∃ q : Nat, 1 ≤ q ∧ q ≤ n + 2 ∧ wrap64 (1 + wrap64 ((IntKind.u64.wrap at_).tmod ((n : Int) + 3 - 1))) = (q : Int) := by
  have h0 : 0 ≤ IntKind.u64.wrap at_ := by
    have e : IntKind.u64.wrap at_ = at_ % 18446744073709551616 := rfl
    rw [e]
    exact Int.emod_nonneg _ (by decide)
  generalize IntKind.u64.wrap at_ = z at h0
  have e3 : (n : Int) + 3 - 1 = (n : Int) + 2 := by omega
  rw [e3, Int.tmod_eq_emod_of_nonneg h0]
  have h1 := Int.emod_nonneg z (show (n : Int) + 2 ≠ 0 by omega)
  have h2 := Int.emod_lt_of_pos z (show (0 : Int) < (n : Int) + 2 by omega)
  generalize z % ((n : Int) + 2) = y at h1 h2
  refine ⟨(1 + y).toNat, by omega, by omega, ?_⟩
  unfold wrap64
  omega

theorem begun_nf {m : Nat} {s : St} (h : Begun m s) : Begun m { s with found := [] } := ⟨h.most, h.inn, h.junk, h.over, h.broken, rfl⟩

set_option maxRecDepth 100000 in
set_option maxHeartbeats 8000000 in
theorem breaks_any (nn : Int) (p : Option Addr) (n c : Nat) (bs : List Int) (at_ : Int) (w : World) (ha : ArgC w p n c bs) (hs : n < 4294967281) (he : Ends w) :
    Calls Tryd.prog 4 #[.int .i64 nn, .slice p n c, .int .i64 at_] w fun e w' => e = .returned (.bool true) ∧ Below w.heap.size w w' := by
  have HA := Lib.hid ha
  have HF := Lib.hid (From.refl he)
  clear ha he
  have hm := mostOf_in nn
  cases hg : goodL bs
  · go_enter Tryd.func4, Tryd.ntmps4
    go_wp2_with fail
    refine (wrap_no_at HF.out HA.out hs hg).mono ?_
    rintro e w1 ⟨rfl, hf, -⟩
    have HF1 := Lib.hid hf
    clear hf
    go_wp2_with fail
    refine (most_run nn w1).mono ?_
    rintro e w2 ⟨rfl, hw2⟩
    subst hw2
    generalize mostOf nn = m at hm ⊢
    go_wp2_with fail
    refine (new_run m _ hm.1 (by omega)).mono ?_
    rintro e w3 ⟨rfl, -, hq⟩
    have HF3 := Lib.hid (HF1.out.next hq)
    clear hq
    go_wp2_with fail
    refine (alive_any _).mono ?_
    rintro e w4 ⟨rfl, hq⟩
    have HF4 := Lib.hid (HF3.out.next hq)
    clear hq
    go_wp2_with fail
    refine (alive_any _).mono ?_
    rintro e w5 ⟨rfl, hq⟩
    have HF5 := Lib.hid (HF4.out.next hq)
    clear hq
    go_wp2_with fail
    go_ret
    exact ⟨rfl, HF5.out.grew⟩
  · go_enter Tryd.func4, Tryd.ntmps4
    go_wp2_with fail
    refine (wrap_yes_at HF.out HA.out hs hg).mono ?_
    rintro e w1 ⟨pf, cf, rfl, hv, hf, hb⟩
    have HV := Lib.hid hv
    have HF1 := Lib.hid hf
    have HB1 := Lib.hid hb
    clear hv hf hb
    go_wp2_with fail
    refine (most_run nn w1).mono ?_
    rintro e w2 ⟨rfl, hw2⟩
    subst hw2
    have HM := Lib.hid (most_run nn)
    generalize mostOf nn = m at hm HM ⊢
    go_wp2_with fail
    refine (new_run m _ hm.1 (by omega)).mono ?_
    rintro e w3 ⟨rfl, hd3, hq3⟩
    go_wp2_with fail
    refine (alive_any _).mono ?_
    rintro e w4 ⟨rfl, hq4⟩
    have hd4 := hd3.below hq4
    have H4 := Lib.hid (And.intro hd4 (hq3.trans (hq4.mono hq3.size)))
    clear hd3 hq3 hq4 hd4
    go_wp2_with fail
    refine (HM.out _).mono ?_
    rintro e w5 ⟨rfl, hw5⟩
    subst hw5
    by_cases hnm : n ≤ m
    · have hnmb : decide ((m : Int) < (n : Int)) = false := by simp; omega
      obtain ⟨q, hq1, hq2, hkk⟩ := part_of at_ (n := n) (by omega)
      have hcf : q ≤ cf := by have := HV.out.cap; omega
      go_wp2_with fail
      have hb1 := begun_any m hg (by have := HA.out.len; omega) q hq1 (by have := HA.out.len; omega)
      refine (feed_run _ _ q cf pf _ _ ((wrapL bs).take q) w5 H4.out.1 ⟨⟨Int.le_refl 0, by simp [St.fresh]; omega⟩, ⟨Int.le_refl 0, by simp [St.fresh]; omega⟩, ⟨Int.le_refl 0, by simp [St.fresh]; omega⟩, by simp [St.fresh]; omega⟩ (by rw [List.length_take, wrap_len, HA.out.len]; omega) (src_of (HV.out.init q (by omega)) H4.out.2 H4.out.1 (Nat.le_refl _))).mono ?_
      rintro e w6 ⟨nv1, fo1, vs1, rfl, hfd⟩
      have hbw6 : Below w2.heap.size w2 w6 := Moved.below H4.out.2 hfd.moved (by rintro k (rfl | hk); exact Nat.le_refl _; simp [Value.ownBlock] at hk)
      have hb2 := begun_nf hb1
      have hst := hfd.st
      generalize (St.fresh m).feed ((wrapL bs).take q) = s1 at hb1 hb2 hst hfd
      generalize { s1 with found := [] } = s2 at hb2 hst
      have H6 := Lib.hid (And.intro hst (And.intro hbw6 hb2))
      obtain ⟨fp1, fc1, rfl⟩ := owns_form hfd.out.row
      clear hfd hst hbw6 hb1 hb2
      go_wp2_with fail
      have hlb : bs.length ≤ m := by have := HA.out.len; omega
      have hlw : (wrapL bs).length = n + 3 := by rw [wrap_len, HA.out.len]
      have hB := H6.out.2.2
      refine (feed_run _ _ (n + 3) cf pf _ s2 (wrapL bs) w6 H6.out.1 ⟨⟨by rw [hB.junk]; exact Int.le_refl 0, by rw [hB.junk]; omega⟩, ⟨by rw [hB.over]; exact Int.le_refl 0, by rw [hB.over]; omega⟩, ⟨by rw [hB.broken]; exact Int.le_refl 0, by rw [hB.broken]; omega⟩, by rw [hB.found]; simp; omega⟩ hlw (src_of HV.out H6.out.2.1 H6.out.1 (Nat.le_refl _))).mono ?_
      rintro e w7 ⟨nv2, fo2, vs2, rfl, hfd⟩
      rw [feed_anew m hg hlb s2 hB] at hfd
      have hbw7 : Below w2.heap.size w2 w7 := Moved.below H6.out.2.1 hfd.moved (by
        rintro k (rfl | hk)
        · exact Nat.le_refl _
        · have := (H6.out.1.now.lt k hk.symm).1; omega)
      have hone : vs2.length = 1 := hfd.out.many
      obtain ⟨v0, rfl⟩ : ∃ v0, vs2 = [v0] := by
        match vs2, hone with
        | [v0], _ => exact ⟨v0, rfl⟩
      obtain ⟨g, cg, rfl, hcg⟩ := owns_one hfd.out.row
      have h0 : w7.ownsRow (w2.heap.size + 1) 5 1 v0 n (bs.map (Value.int .u8)) := by
        have h00 : BytesAt w7 (w2.heap.size + 1) v0 bs := hfd.out.els 0 v0 bs rfl rfl
        unfold BytesAt at h00
        rw [HA.out.len] at h00
        exact h00
      obtain ⟨p0, c0, rfl, ha0⟩ := owned_arg h0 HA.out.byte
      have hst := hfd.st
      have hD : ∀ i, DAt (w2.heap.size + 1) w2.heap.size nv2 (.slice none 0 0) [] ⟨m, false, false, [], [], 0, 0, 1⟩ (w7.drewN i) := fun i => hst.below (below_drewN _ _)
      have HD := Lib.hid hD
      have H18 : Hid (∀ i, Calls Tryd.prog 18 #[.pointer (some ⟨w2.heap.size, 0, none⟩)] (w7.drewN i) fun e w' => e = .returned (.int .i64 0) ∧ w' = w7.drewN i) := Lib.hid fun i => over_run _ _ _ _ _ _ _ (HD.out i)
      have H19 : Hid (∀ i, Calls Tryd.prog 19 #[.pointer (some ⟨w2.heap.size, 0, none⟩)] (w7.drewN i) fun e w' => e = .returned (.int .i64 1) ∧ w' = w7.drewN i) := Lib.hid fun i => broken_run _ _ _ _ _ _ _ (HD.out i)
      have H20 : Hid (∀ i, Calls Tryd.prog 20 #[.pointer (some ⟨w2.heap.size, 0, none⟩)] (w7.drewN i) fun e w' => e = .returned (.int .i64 0) ∧ w' = w7.drewN i) := Lib.hid fun i => held_run _ _ _ _ _ _ _ (HD.out i)
      have H21 : Hid (∀ i, Calls Tryd.prog 21 #[.pointer (some ⟨w2.heap.size, 0, none⟩)] (w7.drewN i) fun e w' => e = .returned (.int .i64 0) ∧ w' = w7.drewN i) := Lib.hid fun i => junk_run _ _ _ _ _ _ _ (HD.out i)
      have hW7 : Below w.heap.size w w7 := (HF1.out.next hbw7).grew
      have k0 : ∀ i, (convert 23 9 (.slice p0 n c0)).run Tryd.prog (w7.drewN i) = .ok (.string (strOfNums bs)) (w7.drewN i) := fun i => (ha0.below (below_drewN w7 i)).conv
      have k1 : ∀ i, (convert 23 9 (.slice p n c)).run Tryd.prog (w7.drewN i) = .ok (.string (strOfNums bs)) (w7.drewN i) := fun i => ((HA.out.below hW7).below (below_drewN w7 i)).conv
      have hss := str_eq (strOfNums bs)
      generalize strOfNums bs = S at k0 k1 hss
      have HW := Lib.hid hW7
      clear hfd hst hbw7 hone h0 hD hW7 ha0 hB HD hlb hlw
      go_wp2_with fail
      go_quiet ((first
        | (go_at_call 18; exact Calls.quiet_of_same (H18.out _))
        | (go_at_call 19; exact Calls.quiet_of_same (H19.out _))
        | (go_at_call 20; exact Calls.quiet_of_same (H20.out _))
        | (go_at_call 21; exact Calls.quiet_of_same (H21.out _))))
      go_wp2_with fail
      go_ret
      exact ⟨rfl, HW.out.trans ((below_drewN _ _).mono HW.out.size)⟩
    · have hnmb : decide ((m : Int) < (n : Int)) = true := by simp; omega
      go_wp2_with fail
      refine (alive_any _).mono ?_
      rintro e w6 ⟨rfl, hq6⟩
      have HF6 := Lib.hid ((HF1.out.next H4.out.2).next hq6)
      clear hq6
      go_wp2_with fail
      go_ret
      exact ⟨rfl, HF6.out.grew⟩
end Go.Proofs.YthhbohpmbkdkeaaDoor
