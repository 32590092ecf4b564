/- frame.Unwrap. -/
import Derived.Test.YthhbohpmbkdkeaaDoorRf
namespace Go.Proofs.YthhbohpmbkdkeaaDoor
open Go.RowKit

theorem drop_two {bs : List Int} {n : Nat} {x1 x2 : Int} (hl : bs.length = n) (hn : 2 ≤ n) (h1 : bs[n - 2]? = some x1) (h2 : bs[n - 1]? = some x2) : bs.drop (n - 2) = [x1, x2] := by
  rw [drop_at h1, show n - 2 + 1 = n - 1 by omega, drop_at h2, List.drop_of_length_le (by omega)]

theorem suffix_two {bs : List Int} {n : Nat} {x1 x2 : Int} (hb : ByteL bs) (hl : bs.length = n) (hn : 2 ≤ n) (h1 : bs[n - 2]? = some x1) (h2 : bs[n - 1]? = some x2) :
    Lib.hasSuffix (Lib.bytesOf bs) (Lib.bytesOf [28, 13]) = (x1 == 28 && x2 == 13) := by
  have hd := drop_two hl hn h1 h2
  have b1 := byte_eq (hb x1 (List.mem_of_getElem? h1)) 28 (by decide)
  have b2 := byte_eq (hb x2 (List.mem_of_getElem? h2)) 13 (by decide)
  rw [← Lib.bytes_hasSuffix, hl, show ([28, 13] : List Int).length = 2 from rfl, hd]
  have e : (Lib.bytesOf [x1, x2] == Lib.bytesOf [28, 13]) = (x1 == 28 && x2 == 13) := by
    have e1 : (Lib.bytesOf [x1, x2] == Lib.bytesOf [28, 13]) = ((UInt8.ofNat x1.toNat == UInt8.ofNat 28) && ((UInt8.ofNat x2.toNat == UInt8.ofNat 13) && true)) := rfl
    rw [e1, b1, b2, Bool.and_true]
    rfl
  rw [e]
  simp [hn]

/-- what Unwrap hands back -/
def Unwrapped (w w' : World) (bs : List Int) (e : Ending) : Prop :=
  ∃ p n c, e = .returned (.tuple #[.slice p n c, .int .i64 (unwrapL bs).2]) ∧ ArgC w' p n c (unwrapL bs).1 ∧ Below w.heap.size w w'

theorem nil_arg (w : World) : ArgC w none 0 0 [] := ⟨⟨rfl, fun j x hj => by simp at hj, by decide⟩, Nat.le_refl _, fun _ => ⟨rfl, rfl⟩⟩

theorem Unwrapped.no {w w' : World} {bs : List Int} {k : Int} (h : unwrapL bs = ([], k)) (hb : Below w.heap.size w w') : Unwrapped w w' bs (.returned (.tuple #[.slice none 0 0, .int .i64 k])) :=
  ⟨none, 0, 0, by rw [h], by rw [h]; exact nil_arg _, hb⟩

set_option maxRecDepth 100000 in
set_option maxHeartbeats 4000000 in
/-- frame.Unwrap -/
theorem unwrap_run (p : Option Addr) (n c : Nat) (bs : List Int) (w : World) (ha : ArgC w p n c bs) (hs : n < 4294967281) (he : Ends w) :
    Calls Tryd.prog 27 #[.slice p n c] w fun e w' => Unwrapped w w' bs e := by
  have HA := Lib.hid ha
  have HE := Lib.hid he
  clear ha he
  by_cases h3 : n < 3
  · have hd : decide ((n : Int) < 3) = true := by simp; omega
    have hu : unwrapL bs = ([], 7) := by rw [unwrapL, if_pos (by have := HA.out.len; omega)]
    have HU := Lib.hid hu
    clear hu
    go_enter Tryd.func27, Tryd.ntmps27
    go_wp2_with fail
    go_ret2
    exact Unwrapped.no HU.out (Below.refl _ _)
  · have hd : decide ((n : Int) < 3) = false := by simp; omega
    obtain ⟨b, off, x0, hp, hx0, hc0⟩ := HA.out.toArgB.look (j := 0) (by omega)
    subst hp
    obtain ⟨b', off', x1, hp, hx1, hc1⟩ := HA.out.toArgB.look (j := n - 2) (by omega)
    cases hp
    obtain ⟨b', off', x2, hp, hx2, hc2⟩ := HA.out.toArgB.look (j := n - 1) (by omega)
    cases hp
    have hsf := suffix_two HA.out.byte HA.out.len (by omega) hx1 hx2
    have hcut := Tryd.bytes_CutSuffix_all (some ⟨b, off, none⟩) (some ⟨0, 0, none⟩) n c 2 2 bs [28, 13] w HA.out.len rfl HA.out.cap (by omega) (Lib.BytesIn.of_cells HA.out.toArgB.cells) (Lib.BytesIn.of_cells HE.out.cells2)
    have ecut : Lib.trimSuffixV (some ⟨b, off, none⟩) n c bs [28, 13] = Lib.bytesTrimSuffix b off n c bs [28, 13] := rfl
    rw [ecut, Lib.bytesTrimSuffix, hsf] at hcut
    rw [Nat.add_zero] at hc0
    have hu : unwrapL bs = if x0 = 11 ∧ x1 = 28 ∧ x2 = 13 ∧ goodL ((bs.drop 1).take (n - 3)) = true then ((bs.drop 1).take (n - 3), 0) else ([], 10) := by
      have hl := HA.out.len
      rw [unwrapL, hl, if_neg (by omega), hx0, hx1, hx2]
      simp only [Option.some.injEq]
    have hnc := HA.out.cap
    have hmid' : ArgC w (some ⟨b, off + 1, none⟩) (n - 2 - 1) (c - 1) ((bs.drop 1).take (n - 3)) := (HA.out.part 1 (n - 2) (by omega) (by omega))
    generalize (bs.drop 1).take (n - 3) = M at hu hmid'
    have HM := Lib.hid hmid'
    have HU := Lib.hid hu
    clear hu hx0 hx1 hx2 hmid' ecut hsf hc1 hc2
    by_cases e12 : x1 = 28 ∧ x2 = 13
    · obtain ⟨rfl, rfl⟩ := e12
      rw [show ((28 : Int) == 28 && (13 : Int) == 13) = true from rfl] at hcut
      simp only [if_true] at hcut
      have hst : Lib.sliceTo b off c (n - ([28, 13] : List Int).length) = .slice (some ⟨b, off, none⟩) (n - 2) c := rfl
      rw [hst] at hcut
      by_cases e0 : x0 = 11
      · subst e0
        cases hg : goodL M
        · have HN := Lib.hid (show unwrapL bs = ([], 10) by rw [HU.out, hg, if_neg (by rintro ⟨_, _, _, h⟩; cases h)])
          go_enter Tryd.func27, Tryd.ntmps27
          go_wp2_with fail
          refine hcut.mono ?_
          rintro e w' ⟨rfl, rfl⟩
          go_wp2_with fail
          refine (good_run _ _ _ M _ HM.out (by omega) HE.out).mono ?_
          rintro e w2 ⟨rfl, q, rfl⟩
          rw [hg]
          go_wp2_with fail
          go_ret2
          exact Unwrapped.no HN.out (below_drewN _ _)
        · have HN := Lib.hid (show unwrapL bs = (M, 0) by rw [HU.out, hg, if_pos ⟨rfl, rfl, rfl, rfl⟩])
          go_enter Tryd.func27, Tryd.ntmps27
          go_wp2_with fail
          refine hcut.mono ?_
          rintro e w' ⟨rfl, rfl⟩
          go_wp2_with fail
          refine (good_run _ _ _ M _ HM.out (by omega) HE.out).mono ?_
          rintro e w2 ⟨rfl, q, rfl⟩
          rw [hg]
          have HM2 : ArgC (w'.drewN q) (some ⟨b, off + 1, none⟩) (n - 2 - 1) (c - 1) M := HM.out.below (below_drewN _ _)
          have HM3 := Lib.hid HM2
          clear HM2
          go_wp2_with fail
          refine (Tryd.bytes_Clone_at _ _ _ M _ HM3.out.len (by omega) HM3.out.toArgB.cells).mono ?_
          rintro e w3 ⟨v', rfl, hown, -, hb⟩
          obtain ⟨p', c', rfl, ha'⟩ := owned_arg hown HM3.out.byte
          have HV := Lib.hid (And.intro ha' hb)
          clear hown ha' hb
          go_wp2_with fail
          go_ret2
          exact ⟨p', _, c', by rw [HN.out]; rfl, by rw [HN.out]; exact HV.out.1, (below_drewN _ _).trans (HV.out.2.mono (Nat.le_refl _))⟩
      · have d0 : (x0 == 11) = false := by simpa using e0
        have HN := Lib.hid (show unwrapL bs = ([], 10) by rw [HU.out, if_neg (by rintro ⟨h, _⟩; exact e0 h)])
        go_enter Tryd.func27, Tryd.ntmps27
        go_wp2_with fail
        refine hcut.mono ?_
        rintro e w' ⟨rfl, rfl⟩
        go_wp2_with fail
        go_ret2
        exact Unwrapped.no HN.out (Below.refl _ _)
    · have hf : (x1 == 28 && x2 == 13) = false := by
        rw [Bool.and_eq_false_iff]
        by_cases h : x1 = 28
        · exact .inr (by simpa using fun h2 => e12 ⟨h, h2⟩)
        · exact .inl (by simpa using h)
      rw [hf] at hcut
      have HN := Lib.hid (show unwrapL bs = ([], 10) by rw [HU.out, if_neg (by rintro ⟨_, h1, h2, _⟩; exact e12 ⟨h1, h2⟩)])
      go_enter Tryd.func27, Tryd.ntmps27
      go_wp2_with fail
      refine hcut.mono ?_
      rintro e w' ⟨rfl, rfl⟩
      go_wp2_with fail
      go_ret2
      exact Unwrapped.no HN.out (Below.refl _ _)
end Go.Proofs.YthhbohpmbkdkeaaDoor
