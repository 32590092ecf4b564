/- The walk of law05.DeframePieces. -/
import Derived.Test.YthhbohpmbkdkeaaPc
namespace Go.Proofs.Ythhbohpmbkdkeaa
open Go.RowKit

/-- a row of numbers -/
def IntsAt (w : World) (p : Option Addr) (n : Nat) (cs : Nat → Int) : Prop := ∀ j, j < n → ∃ b off, p = some ⟨b, off, none⟩ ∧ w.cell? ⟨b, off + j, none⟩ = some (.int .i64 (cs j))

theorem IntsAt.below {w w' : World} {p : Option Addr} {n : Nat} {cs : Nat → Int} (h : IntsAt w p n cs) (hb : Below w.heap.size w w') : IntsAt w' p n cs := fun j hj => by
  obtain ⟨b, off, h1, h2⟩ := h j hj
  exact ⟨b, off, h1, below_keeps hb h2⟩

theorem ArgB.src {w : World} {p : Option Addr} {n : Nat} {bs : List Int} (h : ArgB w p n bs) {bd : Nat} {nv : Value} {w' : World} (hb : Below w.heap.size w w') (hbd : w.heap.size ≤ bd) (hnv : ∀ k, nv.ownBlock = some k → w.heap.size ≤ k) : Src w' bd nv p bs := fun j x hj => by
  obtain ⟨b, off, h1, h2⟩ := h.at_ j x hj
  have hlt : b < w.heap.size := World.block_lt_of_cell? w ⟨b, off + j, none⟩ h2
  exact ⟨b, off, h1, by omega, fun e => by have := hnv b e.symm; omega, below_keeps hb h2⟩

theorem DAt.moved {B bd : Nat} {nv fv : Value} {vs : List Value} {s : St} {w w' : World} {S : Nat → Prop} (h : DAt B bd nv fv vs s w) (hm : Moved w w' S) (hS : ∀ k, S k → k < w.heap.size → k ≠ bd ∧ k < B) : DAt B bd nv fv vs s w' := by
  have hlt : bd < w.heap.size := Nat.lt_of_lt_of_le h.low h.size
  have far : ∀ {e : TypeId} {v : Value} {n : Nat} {xs : List Value}, w.ownsRow B e 1 v n xs → w'.ownsRow B e 1 v n xs := fun hx =>
    owns_moved hx hm (fun k hk e => by have h1 := hx.lt k hk; have h2 := hS k e h1.2; omega)
  exact ⟨h.low, Nat.le_trans h.size hm.size, (hm.block bd hlt (fun e => (hS bd e hlt).1 rfl)).trans h.obj, far h.now, far h.row, h.many, fun i v bs hv hb' => far (h.els i v bs hv hb'), h.apart, h.len⟩

theorem DAt.grown {B bd B2 : Nat} {nv gv : Value} {n : Nat} {ys : List Value} {s : St} {w w' : World} (h : DAt B bd nv (.slice none 0 0) [] s w) (hg : w.ownsRow B2 30 1 gv n ys) (hgr : w.grownBy w' gv.ownBlock) (hb : bd < B2) : DAt B bd nv (.slice none 0 0) [] s w' := by
  have hlt : bd < w.heap.size := Nat.lt_of_lt_of_le h.low h.size
  have hm := Moved.of_grown hgr
  refine ⟨h.low, Nat.le_trans h.size hm.size, (hm.block bd hlt (fun e => by have := (hg.lt bd e.symm).1; omega)).trans h.obj, ?_, World.ownsRow_nil _ _ _ _, h.many, fun i v bs hv => by simp at hv, fun v hv => by simp at hv, h.len⟩
  exact owns_moved h.now hm (fun k hk e => owns_apart (B := 0) (owns_base h.now (Nat.zero_le _)) (owns_base hg (Nat.zero_le _)) (by decide) k hk e)

theorem Fed.got {B bf B2 : Nat} {nv nv' fo gv : Value} {vs ys : List Value} {n : Nat} {s s' : St} {w w' : World} (h : Fed B bf nv w nv' fo vs s' w') (hd : DAt B bf nv (.slice none 0 0) [] s w) (hg : w.ownsRow B2 30 1 gv n ys) (hb : bf < B2) : w'.ownsRow B2 30 1 gv n ys :=
  owns_moved hg h.moved (fun k hk e => by
    rcases e with e | e
    · have := (hg.lt k hk).1; omega
    · exact owns_apart (B := 0) (owns_base hg (Nat.zero_le _)) (owns_base hd.now (Nat.zero_le _)) (by decide) k hk e)

theorem DAt.moved2 {B bd : Nat} {nv : Value} {s : St} {w w' : World} {S : Nat → Prop} (h : DAt B bd nv (.slice none 0 0) [] s w) (hm : Moved w w' S) (h1 : ¬ S bd) (h2 : ∀ k, nv.ownBlock = some k → ¬ S k) : DAt B bd nv (.slice none 0 0) [] s w' := by
  have hlt : bd < w.heap.size := Nat.lt_of_lt_of_le h.low h.size
  exact ⟨h.low, Nat.le_trans h.size hm.size, (hm.block bd hlt h1).trans h.obj, owns_moved h.now hm h2, World.ownsRow_nil _ _ _ _, h.many, fun i v bs hv => by simp at hv, fun v hv => by simp at hv, h.len⟩

theorem slice_of_owns {w : World} {B : Nat} {v : Value} {n : Nat} {xs : List Value} (h : w.ownsRow B 30 1 v n xs) : SliceOf w v n (fun j => xs.getD j undef) := by
  have hl : xs.length = n := by simpa using h.1
  rcases h.2 with ⟨rfl, rfl⟩ | ⟨g, cap, cur, rfl, _⟩
  · exact ⟨none, 0, rfl, fun j hj => by omega⟩
  · refine ⟨_, cap, rfl, fun j hj => ⟨g, 0, rfl, ?_⟩⟩
    have := h.cells (g := g) rfl j (xs.getD j undef) (by simp [List.getElem?_eq_getElem (show j < xs.length by omega)])
    rwa [Addr.add_lit] at this

/-- what is left behind a piece -/
theorem drop_more {bs : List Int} {r kk i : Nat} {x : Int} (h : (bs.drop (r + kk))[i]? = some x) : (bs.drop r)[kk + i]? = some x := by
  rw [List.getElem?_drop] at h ⊢
  rw [← Nat.add_assoc]
  exact h

set_option maxRecDepth 100000 in
set_option maxHeartbeats 4000000 in
theorem pieces_any (n : Int) (p : Option Addr) (l cp : Nat) (bs : List Int) (pc : Option Addr) (lc cc : Nat) (cs : Nat → Int) (w : World) (ha : ArgB w p l bs) (hcap : l ≤ cp ∧ cp ≤ maxLen) (hcs : IntsAt w pc lc cs) :
    Calls Try.prog 4 #[.int .i64 n, .slice p l cp, .slice pc lc cc] w fun e w' => e = .returned (.bool true) ∧ Below w.heap.size w w' := by
  have HA := Lib.hid ha
  have HC := Lib.hid hcs
  clear ha hcs
  have hm := mostOf_in n
  go_enter Try.func4, Try.ntmps4
  go_wp2_with fail
  refine (alive_any _).mono ?_
  rintro e w1 ⟨rfl, hq1⟩
  have early : Calls Try.prog 8 #[] w1 fun e w' => e = .returned (.bool true) ∧ Below w.heap.size w w' := (alive_any _).mono fun e w' ⟨a, b⟩ => ⟨a, hq1.trans (b.mono hq1.size)⟩
  by_cases hl : l ≤ 2000
  · have hlb : decide ((2000 : Int) < (l : Int)) = false := by simp; omega
    by_cases hlc : lc ≤ 100
    · have hlcb : decide ((100 : Int) < (lc : Int)) = false := by simp; omega
      go_wp2_with fail
      refine (most_run n _).mono ?_
      rintro e w' ⟨rfl, rfl⟩
      have HM := Lib.hid (fun w => most_run n w)
      generalize mostOf n = m at hm HM ⊢
      go_wp2_with fail
      refine (new_run m _ hm.1 (by omega)).mono ?_
      rintro e w2 ⟨rfl, hd2, hq2⟩
      have HD2 := Lib.hid hd2
      clear hd2
      go_wp2_with fail
      refine (HM.out _).mono ?_
      rintro e w3 ⟨rfl, rfl⟩
      go_wp2_with fail
      refine (new_run m _ hm.1 (by omega)).mono ?_
      rintro e w4 ⟨rfl, hf4, hq4⟩
      have HF4 := Lib.hid hf4
      clear hf4
      go_wp2_with fail
      have hwa : w.heap.size ≤ w'.heap.size := hq1.size
      have hwd : w'.heap.size + 1 ≤ w3.heap.size := HD2.out.size
      have hwf : w3.heap.size + 1 ≤ w4.heap.size := HF4.out.size
      have hb4 : Below w.heap.size w w4 := (hq1.trans (hq2.mono hwa)).trans (hq4.mono (by omega))
      have hroom : Room (St.fresh m) bs.length := by have := HA.out.len; exact ⟨by simp [St.fresh]; omega, by simp [St.fresh]; omega, by simp [St.fresh]; omega, by simp [St.fresh]; omega⟩
      refine (feed_run (w'.heap.size + 1) w'.heap.size l cp p (.slice none 0 0) (St.fresh m) bs w4 (HD2.out.below hq4) hroom HA.out.len (HA.out.src hb4 hwa (fun k hk => by simp [Value.ownBlock] at hk))).mono ?_
      rintro e w5 ⟨nvd, fo, vs, rfl, hfd⟩
      obtain ⟨ao, cap, rfl⟩ := owns_form hfd.out.row
      have hf5 : DAt (w3.heap.size + 1) w3.heap.size (.slice none 0 0) (.slice none 0 0) [] (St.fresh m) w5 := HF4.out.moved hfd.moved (fun k hk _ => by
        rcases hk with hk | hk
        · omega
        · simp [Value.ownBlock] at hk)
      have hb5 : Below w.heap.size w w5 := Moved.below hb4 hfd.moved (fun k hk => by
        rcases hk with hk | hk
        · omega
        · simp [Value.ownBlock] at hk)
      have hs5 : w4.heap.size ≤ w5.heap.size := hfd.moved.size
      have HFD := Lib.hid hfd
      have HF5 := Lib.hid hf5
      have HB5 := Lib.hid hb5
      have HR := Lib.hid hroom
      clear hfd hf5 hb5 hb4 hroom early
      go_wp2_with fail
      go_loopw [13, 14, 70] (fun gv rest i wr => ∃ (j r : Nat) (nvf : Value) (vals : List Value) (pr : Option Addr) (cr : Nat), i = .int .i64 j ∧ j ≤ lc ∧ r ≤ l ∧ rest = .slice pr (l - r) cr ∧ l - r ≤ cr ∧ cr ≤ maxLen ∧
          (∀ i x, (bs.drop r)[i]? = some x → ∃ b off, pr = some ⟨b, off, none⟩ ∧ w.cell? ⟨b, off + i, none⟩ = some (.int .u8 x)) ∧ DAt (w3.heap.size + 1) w3.heap.size nvf (.slice none 0 0) [] ((St.fresh m).feed (bs.take r)).nf wr ∧
          wr.ownsRow w5.heap.size 30 1 gv vals.length vals ∧ Texts wr (w3.heap.size + 1) vals ((St.fresh m).feed (bs.take r)).found nvf ∧ (∀ k, nvf.ownBlock = some k → w5.heap.size ≤ k) ∧ Moved w5 wr (fun k => k = w3.heap.size)) (fun _ _ i _ => lc - (intOf i).toNat)
      case atStart => exact ⟨0, 0, .slice none 0 0, [], p, cp, rfl, by omega, by omega, rfl, by simpa using hcap.1, hcap.2, fun i x hx => HA.out.at_ i x (by simpa using hx), HF5.out, World.ownsRow_nil _ _ _ _, ⟨rfl, fun i v bs hv => by simp at hv, fun v hv => by simp at hv⟩, fun k hk => by simp [Value.ownBlock] at hk, Moved.refl _ _⟩
      case round =>
        obtain ⟨j, r, nvf, vals, pr, cr, rfl, hj, hr, rfl, hcr, hcm, hp, hd, hg, ht, hn, hmv⟩ := hrel
        have HP := Lib.hid hp
        have HD := Lib.hid hd
        have HG := Lib.hid hg
        have HT := Lib.hid ht
        have HN := Lib.hid hn
        have HV := Lib.hid hmv
        have HCM := Lib.hid hcm
        clear hp hd hg ht hn hmv hcm
        obtain ⟨q, hq⟩ : ∃ q, l - r = q := ⟨_, rfl⟩
        rw [hq] at hcr ⊢
        by_cases hlt : j < lc
        · have hjb : decide ((j : Int) < (lc : Int)) = true := by simp; omega
          have hbr : Below w.heap.size w wr := Moved.below HB5.out HV.out (fun k hk => by omega)
          obtain ⟨b, off, rfl, hc⟩ := HC.out.below hbr j hlt
          have hu : 0 ≤ IntKind.u64.wrap (cs j) ∧ IntKind.u64.wrap (cs j) ≤ 18446744073709551615 := by simp [IntKind.wrap, IntKind.signed, IntKind.bits]; omega
          generalize cs j = cj at hc hu
          obtain ⟨kk, hkk, hkq⟩ : ∃ kk : Nat, IntKind.u64.wrap cj % ((q : Int) + 1) = (kk : Int) ∧ kk ≤ q := by
            have h1 := Int.emod_nonneg (IntKind.u64.wrap cj) (show ((q : Int) + 1) ≠ 0 by omega)
            have h2 := Int.emod_lt_of_pos (IntKind.u64.wrap cj) (show (0 : Int) < (q : Int) + 1 by omega)
            exact ⟨(IntKind.u64.wrap cj % ((q : Int) + 1)).toNat, by omega, by omega⟩
          have hq2000 : (q : Int) ≤ 2000 := by omega
          have hpl : ((bs.drop r).take kk).length = kk := by have := HA.out.len; simp; omega
          have hsrc : Src wr w3.heap.size nvf pr ((bs.drop r).take kk) := fun i x hx => by
            have hi : i < kk := by have := (List.getElem?_eq_some_iff.1 hx).1; omega
            rw [List.getElem?_take_of_lt hi] at hx
            obtain ⟨b', off', h1, h2⟩ := HP.out i x hx
            have hlt : b' < w.heap.size := World.block_lt_of_cell? w ⟨b', off' + i, none⟩ h2
            exact ⟨b', off', h1, by omega, fun e => by have := HN.out b' e.symm; omega, below_keeps hbr h2⟩
          have hrm : Room ((St.fresh m).feed (bs.take r)).nf ((bs.drop r).take kk).length := (Room.feed (n := ((bs.drop r).take kk).length) (bs := bs.take r) (HR.out.mono (by have := HA.out.len; rw [hpl]; simp; omega))).nf
          have hfd := Lib.hid (feed_run (w3.heap.size + 1) w3.heap.size kk cr pr nvf _ ((bs.drop r).take kk) wr HD.out hrm hpl hsrc)
          have HPL := Lib.hid hpl
          have HRM : Hid (Room (((St.fresh m).feed (bs.take r)).nf.feed ((bs.drop r).take kk)) 0) := Lib.hid (Room.feed (n := 0) (by simpa using hrm))
          have htk : bs.take (r + kk) = bs.take r ++ (bs.drop r).take kk := List.take_add
          have HTK := Lib.hid htk
          clear hbr hpl hsrc hrm htk
          go_wp2_with fail
          refine hfd.out.mono ?_
          rintro e w6 ⟨nvf2, fo2, vs2, rfl, hf6⟩
          have hp2 := feed_piece (St.fresh m) (bs.take r) ((bs.drop r).take kk)
          rw [← HTK.out] at hp2
          have HP2 := Lib.hid hp2
          have HF6 := Lib.hid hf6
          have HG6 := Lib.hid (hf6.got HD.out HG.out (by omega))
          have HT6 := Lib.hid (HT.out.fed (Nat.lt_succ_self _) hf6)
          have hs6 : w5.heap.size ≤ w6.heap.size := Nat.le_trans HV.out.size hf6.moved.size
          have hvl : vs2.length ≤ 1000000 ∧ vals.length ≤ 1000000 := by
            refine ⟨?_, ?_⟩
            · rw [hf6.out.many]
              exact (HRM.out.small).found
            · rw [HT.out.many]
              exact (Room.feed (n := 0) (bs := bs.take r) (HR.out.mono (by have := HA.out.len; simp; omega))).small.found
          obtain ⟨i0, hi, hz0, hz1, hz2⟩ : ∃ i0, Try.prog.info? 30 = some i0 ∧ i0.zero = some (.slice none 0 0) ∧ i0.size = 1 ∧ i0.bytes = 24 := info_parts (by kernel_rfl)
          have HI := Lib.hid (And.intro hi (And.intro hz0 (And.intro hz1 hz2)))
          clear hi hz0 hz1 hz2 hp2 hfd
          obtain ⟨ao2, cap2, rfl⟩ := owns_form hf6.out.row
          have h1c : ∀ u ∈ vs2, u.oneCell' = true := fun u hu => by
            obtain ⟨i, hi⟩ := List.getElem?_of_mem hu
            have hlt : i < vs2.length := (List.getElem?_eq_some_iff.1 hi).1
            obtain ⟨_, _, e⟩ := owns_form (hf6.out.els i u _ hi (List.getElem?_eq_getElem (by rw [← hf6.out.many]; exact hlt)))
            rw [e]; rfl
          have H1C := Lib.hid h1c
          have hb1 : vals.length + vs2.length ≤ maxLen := by unfold maxLen; omega
          have hb2 : (vals.length + vs2.length) * 24 ≤ 140737488355328 := by omega
          have HBB := Lib.hid (And.intro hb1 hb2)
          clear hf6 h1c hb1 hb2
          go_wp2_with (first
            | (at_builtin; refine wpList_append_rows rfl _ _ 22 rfl w5.heap.size (w3.heap.size + 1) 30 i0 (.slice none 0 0) 24 Try.underlying22 HI.out.1 HI.out.2.1 HI.out.2.2.1 HI.out.2.2.2 rfl _ vals.length vals rfl HG6.out _ vs2.length vs2 rfl HF6.out.out.row H1C.out HBB.out.1 HBB.out.2 hs6 ?_)
            | fail)
          intro v' w7 hown hgr
          have HOW := Lib.hid hown
          have HGR := Lib.hid hgr
          clear hown hgr
          go_wp2_with fail
          go_roundw
          case rel =>
            refine ⟨j + 1, r + kk, nvf2, vals ++ vs2, _, cr - kk, by go_num, by omega, by omega, by rw [show l - (r + kk) = q - kk from by omega], by omega, by have := HCM.out; omega, ?_, ?_, ?_, ?_, ?_, ?_⟩
            · intro i x hx
              have hi : i < l - (r + kk) := by have := (List.getElem?_eq_some_iff.1 hx).1; have := HA.out.len; simp at *; omega
              obtain ⟨b', off', h1, h2⟩ := HP.out (kk + i) x (drop_more hx)
              refine ⟨b', off' + kk, ?_, by rw [Nat.add_assoc]; exact h2⟩
              rw [if_neg (by omega), h1]
              simp [Addr.add_lit]
            · rw [HP2.out.1]
              exact DAt.grown HF6.out.st HG6.out HGR.out (by omega)
            · rw [List.length_append]
              exact HOW.out
            · rw [HP2.out.2]
              exact HT6.out.grown HG6.out HGR.out
            · intro k hk
              rcases HF6.out.nf with e | e | ⟨g, e, hg⟩
              · rw [e] at hk; cases hk
              · exact HN.out k (e ▸ hk)
              · rw [e] at hk; injection hk with hk; have := HV.out.size; omega
            · refine (HV.out.trans HF6.out.moved (fun k hk1 hk => ?_)).trans (Moved.of_grown HGR.out) (fun k hk1 hk => ?_)
              · rcases hk with hk | hk
                · exact hk
                · have := HN.out k hk.symm; omega
              · have := (HG6.out.lt k hk.symm).1; omega
          case measure => simp [intOf]; omega
        · have hjb : decide ((j : Int) < (lc : Int)) = false := by simp; omega
          have hpl : (bs.drop r).length = q := by have := HA.out.len; simp; omega
          have hbr : Below w.heap.size w wr := Moved.below HB5.out HV.out (fun k hk => by omega)
          have hsrc : Src wr w3.heap.size nvf pr (bs.drop r) := fun i x hx => by
            obtain ⟨b', off', h1, h2⟩ := HP.out i x hx
            have hlt : b' < w.heap.size := World.block_lt_of_cell? w ⟨b', off' + i, none⟩ h2
            exact ⟨b', off', h1, by omega, fun e => by have := HN.out b' e.symm; omega, below_keeps hbr h2⟩
          have hrm : Room ((St.fresh m).feed (bs.take r)).nf (bs.drop r).length := (Room.feed (n := (bs.drop r).length) (bs := bs.take r) (HR.out.mono (by have := HA.out.len; rw [hpl]; simp; omega))).nf
          have hfd := Lib.hid (feed_run (w3.heap.size + 1) w3.heap.size q cr pr nvf _ (bs.drop r) wr HD.out hrm hpl hsrc)
          have HRM : Hid (Room (((St.fresh m).feed (bs.take r)).nf.feed (bs.drop r)) 0) := Lib.hid (Room.feed (n := 0) (by simpa using hrm))
          have HBR := Lib.hid hbr
          clear hpl hsrc hrm hbr
          go_wp2_with fail
          refine hfd.out.mono ?_
          rintro e w6 ⟨nvf2, fo2, vs2, rfl, hf6⟩
          have hp2 := feed_piece (St.fresh m) (bs.take r) (bs.drop r)
          rw [List.take_append_drop] at hp2
          have HP2 := Lib.hid hp2
          have HF6 := Lib.hid hf6
          have HG6 := Lib.hid (hf6.got HD.out HG.out (by omega))
          have HT6 := Lib.hid (HT.out.fed (Nat.lt_succ_self _) hf6)
          have hs6 : w5.heap.size ≤ w6.heap.size := Nat.le_trans HV.out.size hf6.moved.size
          have hvl : vs2.length ≤ 1000000 ∧ vals.length ≤ 1000000 := by
            refine ⟨?_, ?_⟩
            · rw [hf6.out.many]
              exact (HRM.out.small).found
            · rw [HT.out.many]
              exact (Room.feed (n := 0) (bs := bs.take r) (HR.out.mono (by have := HA.out.len; simp; omega))).small.found
          obtain ⟨i0, hi, hz0, hz1, hz2⟩ : ∃ i0, Try.prog.info? 30 = some i0 ∧ i0.zero = some (.slice none 0 0) ∧ i0.size = 1 ∧ i0.bytes = 24 := info_parts (by kernel_rfl)
          have HI := Lib.hid (And.intro hi (And.intro hz0 (And.intro hz1 hz2)))
          clear hi hz0 hz1 hz2 hp2 hfd
          obtain ⟨ao2, cap2, rfl⟩ := owns_form hf6.out.row
          have h1c : ∀ u ∈ vs2, u.oneCell' = true := fun u hu => by
            obtain ⟨i, hi⟩ := List.getElem?_of_mem hu
            have hlt : i < vs2.length := (List.getElem?_eq_some_iff.1 hi).1
            obtain ⟨_, _, e⟩ := owns_form (hf6.out.els i u _ hi (List.getElem?_eq_getElem (by rw [← hf6.out.many]; exact hlt)))
            rw [e]; rfl
          have H1C := Lib.hid h1c
          have hb1 : vals.length + vs2.length ≤ maxLen := by unfold maxLen; omega
          have hb2 : (vals.length + vs2.length) * 24 ≤ 140737488355328 := by omega
          have HBB := Lib.hid (And.intro hb1 hb2)
          clear hf6 h1c hb1 hb2
          go_wp2_with (first
            | (at_builtin; refine wpList_append_rows rfl _ _ 22 rfl w5.heap.size (w3.heap.size + 1) 30 i0 (.slice none 0 0) 24 Try.underlying22 HI.out.1 HI.out.2.1 HI.out.2.2.1 HI.out.2.2.2 rfl _ vals.length vals rfl HG6.out _ vs2.length vs2 rfl HF6.out.out.row H1C.out HBB.out.1 HBB.out.2 hs6 ?_)
            | fail)
          intro v' w7 hown hgr
          -- what both hold
          have ht7 := HT6.out.grown HG6.out hgr
          rw [← HP2.out.2] at ht7
          have hst7 := DAt.grown HF6.out.st HG6.out hgr (show w3.heap.size < w5.heap.size by omega)
          have hnf2 : ((St.fresh m).feed bs).nf = { ((((St.fresh m).feed (bs.take r)).nf).feed (bs.drop r)) with found := [] } := HP2.out.1
          rw [← hnf2] at hst7
          have hm7 : Moved w5 w7 (fun k => k = w3.heap.size) := by
            refine (HV.out.trans HF6.out.moved (fun k hk1 hk => ?_)).trans (Moved.of_grown hgr) (fun k hk1 hk => ?_)
            · rcases hk with hk | hk
              · exact hk
              · have := HN.out k hk.symm; omega
            · have := (HG6.out.lt k hk.symm).1; omega
          have hnd : ∀ k, nvd.ownBlock = some k → ¬ k = w3.heap.size := fun k hk => by
            rcases HFD.out.nf with e | e | ⟨g, e, hg⟩
            · rw [e] at hk; cases hk
            · rw [e] at hk; simp [Value.ownBlock] at hk
            · rw [e] at hk; injection hk with hk; omega
          have hd7 : DAt (w'.heap.size + 1) w'.heap.size nvd (.slice none 0 0) [] ((St.fresh m).feed bs).nf w7 := DAt.moved2 HFD.out.st hm7 (by omega) hnd
          have hwant := owns_moved HFD.out.out.row hm7 (fun k hk e => by
            rcases HFD.out.out.rowNew with e' | ⟨g, e', hg⟩
            · rw [e'] at hk; cases hk
            · rw [e'] at hk; injection hk with hk; omega)
          have hels : ∀ (i : Nat) (v : Value) (xs : List Int), vs[i]? = some v → ((St.fresh m).feed bs).found[i]? = some xs → BytesAt w7 (w'.heap.size + 1) v xs := fun i v xs hv hx =>
            owns_moved (HFD.out.out.els i v xs hv hx) hm7 (fun k hk e => by
              rcases HFD.out.out.elsNew v (List.mem_of_getElem? hv) with e' | ⟨g, e', hg⟩
              · rw [e'] at hk; cases hk
              · rw [e'] at hk; injection hk with hk; omega)
          have hlen : vals.length + vs2.length = vs.length := by
            have h1 := ht7.many
            rw [List.length_append] at h1
            rw [h1, HFD.out.out.many]
          have hsame := same_run vs.length v' (.slice ao vs.length cap) _ _ (fun j => ((St.fresh m).feed bs).found.getD j []) w7 (by rw [HFD.out.out.many]; have := (Room.feed (n := 0) (bs := bs) (by simpa using HR.out)).small.found; omega) (hlen ▸ slice_of_owns hown) (slice_of_owns hwant)
            (fun j hj => by
              have hj2 : j < ((St.fresh m).feed bs).found.length := by rw [← HFD.out.out.many]; exact hj
              have hj1 : j < (vals ++ vs2).length := by rw [List.length_append, hlen]; exact hj
              have := text_of (ht7.els j _ _ (List.getElem?_eq_getElem hj1) (List.getElem?_eq_getElem hj2))
              simpa [List.getD_eq_getElem?_getD, List.getElem?_eq_getElem hj1, List.getElem?_eq_getElem hj2] using this)
            (fun j hj => by
              have hj2 : j < ((St.fresh m).feed bs).found.length := by rw [← HFD.out.out.many]; exact hj
              have := text_of (hels j _ _ (List.getElem?_eq_getElem hj) (List.getElem?_eq_getElem hj2))
              simpa [List.getD_eq_getElem?_getD, List.getElem?_eq_getElem hj, List.getElem?_eq_getElem hj2] using this)
          have hb7 : Below w.heap.size w w7 := Moved.below HB5.out hm7 (fun k hk => by omega)
          have HSA := Lib.hid hsame
          have HB7 := Lib.hid hb7
          have HD7 := Lib.hid hd7
          have HS7 := Lib.hid hst7
          clear hsame hb7 hd7 hst7 hels hwant hm7 ht7 hnf2 hnd hown hgr hlen
          go_wp2_with fail
          refine HSA.out.mono ?_
          rintro e w8 ⟨rfl, hq8⟩
          have HD8 := Lib.hid (HD7.out.below hq8)
          have HS8 := Lib.hid (HS7.out.below hq8)
          have HZ := Lib.hid (HB7.out.trans (hq8.mono HB7.out.size))
          generalize ((St.fresh m).feed bs).nf = D at HD8 HS8
          clear hq8
          go_wp2_with fail
          refine (Calls.mono (held_run _ _ _ _ _ _ _ HD8.out) ?_)
          rintro e w9 ⟨rfl, rfl⟩
          go_wp2_with fail
          refine (Calls.mono (held_run _ _ _ _ _ _ _ HS8.out) ?_)
          rintro e w9 ⟨rfl, rfl⟩
          go_wp2_with fail
          refine (Calls.mono (junk_run _ _ _ _ _ _ _ HD8.out) ?_)
          rintro e w9 ⟨rfl, rfl⟩
          go_wp2_with fail
          refine (Calls.mono (junk_run _ _ _ _ _ _ _ HS8.out) ?_)
          rintro e w9 ⟨rfl, rfl⟩
          go_wp2_with fail
          refine (Calls.mono (over_run _ _ _ _ _ _ _ HD8.out) ?_)
          rintro e w9 ⟨rfl, rfl⟩
          go_wp2_with fail
          refine (Calls.mono (over_run _ _ _ _ _ _ _ HS8.out) ?_)
          rintro e w9 ⟨rfl, rfl⟩
          go_wp2_with fail
          refine (Calls.mono (broken_run _ _ _ _ _ _ _ HD8.out) ?_)
          rintro e w9 ⟨rfl, rfl⟩
          go_wp2_with fail
          refine (Calls.mono (broken_run _ _ _ _ _ _ _ HS8.out) ?_)
          rintro e w9 ⟨rfl, rfl⟩
          go_wp2_with fail
          exact bodyPost_ret (v := .bool true) (by simp [results, Try.results4, go_sem]) rfl ⟨rfl, HZ.out⟩
    · have hlcb : decide ((100 : Int) < (lc : Int)) = true := by simp; omega
      go_wp2_with fail
      refine early.mono ?_
      rintro e w3 ⟨rfl, hq3⟩
      go_wp2_with fail
      exact bodyPost_ret (v := .bool true) (by simp [results, Try.results4, go_sem]) rfl ⟨rfl, hq3⟩
  · have hlb : decide ((2000 : Int) < (l : Int)) = true := by simp; omega
    go_wp2_with fail
    refine early.mono ?_
    rintro e w3 ⟨rfl, hq3⟩
    go_wp2_with fail
    exact bodyPost_ret (v := .bool true) (by simp [results, Try.results4, go_sem]) rfl ⟨rfl, hq3⟩
end Go.Proofs.Ythhbohpmbkdkeaa
