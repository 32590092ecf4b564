/- The walk of law05.DeframeBack. -/
import Derived.Test.YthhbohpmbkdkeaaDoorBs
import Derived.Deep.AppendLies
namespace Go.Proofs.YthhbohpmbkdkeaaDoor
open Go.RowKit

/-- where the law's loop stands -/
structure At (w0 w2 : World) (m : Nat) (L : Nat → Nat) (j : Nat) (av wv : Value) (ns ov : Int) (all : List Int) (V : List Value) (F : List (List Int)) (w : World) : Prop where
  bag : Bag w0 w2 av wv all V F w
  sofar : Sofar m all F ov ns
  len : all.length ≤ j * 103 + sumL L j
  noise : 0 ≤ ns ∧ ns ≤ j * 100
  over : 0 ≤ ov ∧ ov ≤ j
  found : F.length ≤ j

set_option maxRecDepth 100000 in
set_option maxHeartbeats 8000000 in
theorem dback_any (nn : Int) (pl : Option Addr) (k cl : Nat) (A : Nat → Option Addr) (L C : Nat → Nat) (xs : Nat → List Int) (pj : Option Addr) (nj cj : Nat) (js : List Int) (w : World)
    (hkb : (k : Int) ≤ 9223372036854775807) (hl : RowsIn w pl k A L C xs) (hj : ArgC w pj nj cj js) (he : Ends w) :
    Calls Tryd.prog 3 #[.int .i64 nn, .slice pl k cl, .slice pj nj cj] w fun e w' => e = .returned (.bool true) ∧ Below w.heap.size w w' := by
  have HL := Lib.hid hl
  have HJ := Lib.hid hj
  have HF := Lib.hid (From.refl he)
  clear hl hj he
  have hm := mostOf_in nn
  go_enter Tryd.func3, Tryd.ntmps3
  go_wp2_with fail
  refine (alive_any w).mono ?_
  rintro e w1 ⟨rfl, hq1⟩
  have HF1 := Lib.hid (HF.out.next hq1)
  clear hq1
  go_wp2_with fail
  refine (great_run pl k cl A L C xs w1 hkb (HL.out.below HF1.out.grew)).mono ?_
  rintro e w1' ⟨rfl, hw1⟩
  subst hw1
  by_cases hgr : 100 < k ∨ 3000 < sumL L k
  · rw [show greatB k (sumL L k) = true from by simp [greatB, hgr]]
    go_wp2_with fail
    refine (alive_any _).mono ?_
    rintro e w3 ⟨rfl, hq3⟩
    have HF3 := Lib.hid (HF1.out.next hq3)
    clear hq3
    go_wp2_with fail
    go_ret
    exact ⟨rfl, HF3.out.grew⟩
  · rw [show greatB k (sumL L k) = false from by simp [greatB, hgr]]
    have hk100 : k ≤ 100 := by omega
    have hsum : sumL L k ≤ 3000 := by omega
    clear hgr hkb
    by_cases hnj : nj ≤ 100
    · have hnjb : decide ((100 : Int) < (nj : Int)) = false := by simp; omega
      go_wp2_with fail
      refine (most_run nn _).mono ?_
      rintro e w2 ⟨rfl, hw2⟩
      subst hw2
      have HM := Lib.hid (most_run nn)
      generalize mostOf nn = m at hm HM ⊢
      go_wp2_with fail
      refine (new_run m _ hm.1 (by omega)).mono ?_
      rintro e w3 ⟨rfl, hd, hq2⟩
      have HD := Lib.hid hd
      have HF3 := Lib.hid (HF1.out.next hq2)
      have HQ2 := Lib.hid hq2
      have h0 : At w w3 m L 0 (.slice none 0 0) (.slice none 0 0) 0 0 [] [] [] w3 := ⟨⟨World.ownsRow_nil _ _ _ _, by decide, World.ownsRow_nil _ _ _ _, rfl, fun i v b hv => by simp at hv, Below.refl _ _⟩, Sofar.start m, by simp, by decide, by decide, Nat.le_refl _⟩
      have H0 := Lib.hid h0
      clear hd hq2 h0
      go_wp2_with fail
      go_loopw [9, 10, 11, 12, 47] (fun av wv nsv ovv i wr => ∃ (j : Nat) (all : List Int) (V : List Value) (F : List (List Int)) (ns ov : Int), nsv = .int .i64 ns ∧ ovv = .int .i64 ov ∧ i = .int .i64 j ∧ j ≤ k ∧ At w w3 m L j av wv ns ov all V F wr) (fun _ _ _ _ i _ => k - (intOf i).toNat)
      case atStart => exact ⟨0, [], [], [], 0, 0, rfl, rfl, rfl, Nat.zero_le _, H0.out⟩
      case round =>
        obtain ⟨j, all, V, F, ns, ov, rfl, rfl, rfl, hj, hat⟩ := hrel
        have HR := Lib.hid hat
        have HFr := Lib.hid (HF3.out.next hat.bag.grew)
        clear hat H0
        by_cases hlt : j < k
        · have hjb : decide ((j : Int) < (k : Int)) = true := by simp; omega
          have hLj : L j ≤ 3000 := by have := sumL_part (L := L) hlt; omega
          have hAj := Lib.hid (HL.out.arg hlt)
          obtain ⟨b, off, hpl, hcell, -⟩ := HL.out j hlt
          subst hpl
          replace hcell := below_keeps HFr.out.grew hcell
          cases hg : goodL (xs j)
          · go_wp2_with fail
            refine (wrap_no_at HFr.out (HFr.out.arg hAj.out) (by omega) hg).mono ?_
            rintro e w4 ⟨rfl, -, hb4⟩
            have hn : At w w3 m L (j + 1) _ _ ns ov all V F w4 := ⟨HR.out.bag.below hb4, HR.out.sofar, by have := HR.out.len; rw [sumL]; omega, by have := HR.out.noise; omega, by have := HR.out.over; omega, by have := HR.out.found; omega⟩
            have HN := Lib.hid hn
            clear hn hb4 hcell
            go_wp2_with fail
            exact ⟨⟨j + 1, all, V, F, ns, ov, rfl, rfl, by simp, hlt, HN.out⟩, round_less hlt⟩
          · go_wp2_with fail
            refine (wrap_yes _ _ _ _ _ (HFr.out.arg hAj.out) (by omega) HFr.out.now hg).mono ?_
            rintro e w4 ⟨fv, rfl, hv, hb4⟩
            have hlw : (wrapL (xs j)).length = L j + 3 := by rw [wrap_len, hAj.out.len]
            have htw : Two w w3 u9 u10 fv all V F (wrapL (xs j)) w4 := ⟨HR.out.bag.below hb4, by rw [hlw]; exact owns_base hv HR.out.bag.grew.size, by
              cases hu : u9.ownBlock with
              | none => exact .inl rfl
              | some g =>
                refine .inr fun e => ?_
                have h1 := (HR.out.bag.row.lt g hu).2
                have h2 := (hv.lt g e.symm).1
                omega⟩
            have HT := Lib.hid htw
            have HBJ := Lib.hid HJ.out.byte
            clear hv hb4 hcell htw
            go_wp2_with fail
            go_loopw [9, 11, 60] (fun av nsv i wi => ∃ (q : Nat), nsv = .int .i64 (ns + (noise (js.take q)).length) ∧ i = .int .i64 q ∧ q ≤ nj ∧ Two w w3 av u10 fv (all ++ noise (js.take q)) V F (wrapL (xs j)) wi) (fun _ _ i _ => nj - (intOf i).toNat)
            case atStart => exact ⟨0, by simp [noise], rfl, Nat.zero_le _, by simpa [noise] using HT.out⟩
            case round =>
              obtain ⟨q, rfl, rfl, hq, htq⟩ := hrel
              have HQ := Lib.hid htq
              clear htq HT
              by_cases hqn : q < nj
              · have hqb : decide ((q : Int) < (nj : Int)) = true := by simp; omega
                have hnl := noise_len js q
                have hFq := HF3.out.next HQ.out.bag.grew
                obtain ⟨bj, offj, x, hpj, hx, hcx⟩ := (hFq.arg HJ.out).toArgB.look hqn
                subst hpj
                have htk := noise_take hx
                have hxb := HBJ.out x (List.mem_of_getElem? hx)
                have hns := HR.out.noise
                by_cases x11 : x = 11
                · subst x11
                  rw [if_pos rfl] at htk
                  have HK := Lib.hid htk
                  clear htk hx hFq
                  go_wp2_with fail
                  exact ⟨⟨q + 1, by rw [HK.out], by simp, hqn, by rw [HK.out]; exact HQ.out⟩, round_less hqn⟩
                · have d11 : (x == 11) = false := by simpa using x11
                  have n11 : (x != 11) = true := by simpa using x11
                  rw [if_neg x11] at htk
                  have HK := Lib.hid htk
                  have hla : (all ++ noise (js.take q)).length ≤ 20000 := by
                    rw [List.length_append]
                    have := HR.out.len
                    have := sumL_part (L := L) hlt
                    omega
                  have HLA := Lib.hid hla
                  have hgs : w3.heap.size ≤ wr.heap.size := HQ.out.bag.grew.size
                  clear htk hx hFq hla
                  go_wp2_with ((at_builtin; refine at_append rfl _ _ rfl w3.heap.size u9 _ _ rfl (HQ.out.bag.row.alloc _) (some ⟨wr.heap.size, 0, none⟩) 1 1 [x] rfl (new_arg wr _ [x] _ rfl rfl (by intro y hy; simp at hy; subst hy; exact hxb) 1 rfl) (by have := HLA.out; omega) (by simp; omega) ?_))
                  intro v5 w5 hown5 hg5 hn5
                  have ht5 : Two w w3 v5 u10 fv (all ++ noise (js.take q) ++ [x]) V F (wrapL (xs j)) w5 := (HQ.out.below ((Below.refl _ _).alloc (Nat.le_refl _) _)).more (by intro y hy; simp at hy; subst hy; exact hxb) (by simpa [Nat.add_assoc] using hown5) hg5 hn5
                  have HT5 := Lib.hid ht5
                  have e2 : ns + ((noise (js.take (q + 1))).length : Int) = ns + (noise (js.take q)).length + 1 := by rw [HK.out]; simp; omega
                  have HE2 := Lib.hid e2
                  clear hown5 hg5 hn5 ht5 e2
                  go_wp2_with fail
                  exact ⟨⟨q + 1, by rw [HE2.out], by simp, hqn, by rw [HK.out, ← List.append_assoc]; exact HT5.out⟩, round_less hqn⟩
              · have hqb : decide ((q : Int) < (nj : Int)) = false := by simp; omega
                have hqe : js.take q = js := List.take_of_length_le (by have := HJ.out.len; omega)
                rw [hqe] at HQ
                obtain ⟨pf, cf, hfv, haf⟩ := owned_arg HQ.out.fr (wrap_bytes hAj.out.byte)
                subst hfv
                have HAF := Lib.hid haf
                have hnl := noise_len js nj
                have hqe2 : js.take nj = js := List.take_of_length_le (by have := HJ.out.len; omega)
                rw [hqe2] at hnl
                have hla : (all ++ noise js).length + (wrapL (xs j)).length ≤ 20000 := by
                  rw [List.length_append, hlw]
                  have := HR.out.len
                  have := sumL_part (L := L) hlt
                  omega
                have HLA := Lib.hid hla
                have hgs : w3.heap.size ≤ wr.heap.size := HQ.out.bag.grew.size
                have hns := HR.out.noise
                have hov := HR.out.over
                have hfl := HR.out.found
                have hnse : ns + ((noise (js.take q)).length : Int) = ns + (noise js).length := by rw [hqe]
                have HSO := Lib.hid (HR.out.sofar.step (noise_none js) hg)
                clear haf hla
                rw [hnse]
                clear hnse hqe hqe2
                go_wp2_with ((at_builtin; refine at_append rfl _ _ rfl w3.heap.size u9 _ _ rfl HQ.out.bag.row pf _ cf (wrapL (xs j)) rfl HAF.out (by have := HLA.out; omega) hgs ?_))
                intro v6 w6 hown6 hg6 _
                have hb6 : Bag w w3 v6 u10 (all ++ noise js ++ wrapL (xs j)) V F w6 := HQ.out.bag.more (wrap_bytes hAj.out.byte) (by simpa [Nat.add_assoc, hlw] using hown6) hg6
                have HB6 := Lib.hid hb6
                have hgs6 : w3.heap.size ≤ w6.heap.size := hb6.grew.size
                have hl6 : (all ++ noise js ++ wrapL (xs j)).length ≤ (j + 1) * 103 + sumL L (j + 1) := by
                  rw [List.length_append, List.length_append, hlw, sumL]
                  have := HR.out.len
                  omega
                have HL6 := Lib.hid hl6
                clear hown6 hg6 hb6 hl6
                go_wp2_with fail
                refine (HM.out _).mono ?_
                rintro e w6' ⟨rfl, hw6⟩
                subst hw6
                by_cases hLm : L j ≤ m
                · have hLmb : decide ((L j : Int) ≤ (m : Int)) = true := by simp; omega
                  have hs7 := HSO.out.1 (by have := hAj.out.len; omega)
                  have HS7 := Lib.hid hs7
                  obtain ⟨i0, hi, hz0, hz1, hz2⟩ : ∃ i0, Tryd.prog.info? 23 = some i0 ∧ i0.zero = some (.slice none 0 0) ∧ i0.size = 1 ∧ i0.bytes = 24 := info_parts (by kernel_rfl)
                  have HI := Lib.hid (And.intro hi (And.intro hz0 (And.intro hz1 hz2)))
                  have hvl : V.length ≤ 100 := by have := HB6.out.many; omega
                  have HVL := Lib.hid hvl
                  clear hs7 hi hz0 hz1 hz2 hvl
                  go_wp2_with ((at_builtin; refine wpList_append_near rfl _ _ 22 rfl w3.heap.size 23 i0 (.slice none 0 0) 1 24 Tryd.underlying22 HI.out.1 HI.out.2.1 HI.out.2.2.1 HI.out.2.2.2 rfl (by decide) u10 V.length V rfl (HB6.out.want.alloc _) ⟨w6'.heap.size, 0, none⟩ 1 1 [.slice (A j) (L j) (C j)] rfl rfl (World.news_of_block (heap_alloc_new _ _)) (by intro u hu; simp at hu; subst hu; rfl) (by decide) (by have := HVL.out; unfold maxLen; omega) (by have := HVL.out; omega) (by simp; omega) ?_))
                  intro v7 w7 hown7 hg7 _ _
                  have hb7 := (HB6.out.below ((Below.refl _ _).alloc (Nat.le_refl _) _)).found hAj.out hown7 hg7
                  have ha7 : At w w3 m L (j + 1) v6 v7 (ns + (noise js).length) ov _ _ _ w7 := ⟨hb7, HS7.out, HL6.out, by omega, by omega, by simp; omega⟩
                  have HA7 := Lib.hid ha7
                  clear hown7 hg7 hb7 ha7
                  go_wp2_with fail
                  exact ⟨⟨j + 1, _, _, _, _, _, rfl, rfl, by simp, hlt, HA7.out⟩, round_less hlt⟩
                · have hLmb : decide ((L j : Int) ≤ (m : Int)) = false := by simp; omega
                  have ha7 : At w w3 m L (j + 1) v6 u10 (ns + (noise js).length) (ov + 1) _ _ _ w6' := ⟨HB6.out, HSO.out.2 (by have := hAj.out.len; omega), HL6.out, by omega, by omega, by omega⟩
                  have HA7 := Lib.hid ha7
                  clear ha7
                  go_wp2_with fail
                  exact ⟨⟨j + 1, _, _, _, _, _, rfl, rfl, by simp, hlt, HA7.out⟩, round_less hlt⟩
        · have hjb : decide ((j : Int) < (k : Int)) = false := by simp; omega
          have hjk : j = k := by omega
          subst hjk
          obtain ⟨jk, hsf, hjk0, hov0, hjn⟩ := HR.out.sofar
          obtain ⟨pa, ca, hav, haA⟩ := owned_arg HR.out.bag.row HR.out.bag.byte
          have hrow := HR.out.bag.row
          subst hav
          have hdr := HD.out.below HR.out.bag.grew
          have hsrc : Src wr w2.heap.size (.slice none 0 0) pa all := by
            intro i x hx
            obtain ⟨b, off, hp, hc⟩ := haA.at_ i x hx
            refine ⟨b, off, hp, ?_, by simp [Value.ownBlock], hc⟩
            have h1 := (hrow.lt b (by rw [hp]; rfl)).1
            have h2 := HD.out.low
            have h3 := HD.out.size
            omega
          have hlen : all.length ≤ 20000 := by have := HR.out.len; omega
          have hfed := feed_run _ _ all.length ca pa _ _ all wr hdr ⟨⟨Int.le_refl 0, by simp [St.fresh]; omega⟩, ⟨Int.le_refl 0, by simp [St.fresh]; omega⟩, ⟨Int.le_refl 0, by simp [St.fresh]; omega⟩, by simp [St.fresh]; omega⟩ rfl hsrc
          rw [hsf] at hfed
          have HFD := Lib.hid hfed
          have HJK := Lib.hid (And.intro hjk0 (And.intro hov0 hjn))
          clear hsf hjk0 hov0 hjn hdr hsrc hfed hrow haA hlen
          go_wp2_with fail
          refine HFD.out.mono ?_
          rintro e w5 ⟨nv5, fo, vs, rfl, hfd⟩
          have hb5 : Below w2.heap.size w2 w5 := Moved.below (HQ2.out.trans (HR.out.bag.grew.mono HQ2.out.size)) hfd.moved (by rintro k (rfl | hk); exact Nat.le_refl _; simp [Value.ownBlock] at hk)
          have hF5 : From w w5 := HF1.out.next hb5
          have hmany : vs.length = F.length := hfd.out.many
          have hVF := HR.out.bag.many
          have hwant := owns_moved HR.out.bag.want hfd.moved (by
            rintro k hk (rfl | hk2)
            · have h1 := (HR.out.bag.want.lt _ hk).1
              have h2 := HD.out.low
              have h3 := HD.out.size
              omega
            · simp [Value.ownBlock] at hk2)
          have hel : ∀ (i : Nat) (v : Value) (b : List Int), V[i]? = some v → F[i]? = some b → ∃ p n c, v = .slice p n c ∧ ArgC w5 p n c b := fun i v b h1 h2 => by
            obtain ⟨p, n, c, h3, h4⟩ := HR.out.bag.els i v b h1 h2
            exact ⟨p, n, c, h3, hF5.arg h4⟩
          have hsame := same_txt F.length fo u10 (fun i => vs.getD i .nilFunc) (fun i => V.getD i .nilFunc) (fun i => F.getD i []) w5 (by have := HR.out.found; omega) (by have := slice_of hfd.out.row; rwa [hmany] at this) (by have := slice_of hwant; rwa [hVF] at this)
            (fun i hi => by
              obtain ⟨v, hv⟩ : ∃ v, vs[i]? = some v := ⟨_, List.getElem?_eq_getElem (by omega)⟩
              obtain ⟨b, hb⟩ : ∃ b, F[i]? = some b := ⟨_, List.getElem?_eq_getElem hi⟩
              obtain ⟨v2, hv2⟩ : ∃ v, V[i]? = some v := ⟨_, List.getElem?_eq_getElem (by omega)⟩
              obtain ⟨p2, n2, c2, _, ha2⟩ := hel i v2 b hv2 hb
              obtain ⟨p3, c3, rfl, ha3⟩ := owned_arg (hfd.out.els i v b hv hb) ha2.byte
              simp only [List.getD_eq_getElem?_getD, hv, hb, Option.getD_some]
              exact ha3.txt)
            (fun i hi => by
              obtain ⟨b, hb⟩ : ∃ b, F[i]? = some b := ⟨_, List.getElem?_eq_getElem hi⟩
              obtain ⟨v2, hv2⟩ : ∃ v, V[i]? = some v := ⟨_, List.getElem?_eq_getElem (by omega)⟩
              obtain ⟨p2, n2, c2, rfl, ha2⟩ := hel i v2 b hv2 hb
              simp only [List.getD_eq_getElem?_getD, hv2, hb, Option.getD_some]
              exact ha2.txt)
          have HSM := Lib.hid hsame
          have HST := Lib.hid hfd.st
          have HF5 := Lib.hid hF5
          clear hfd hb5 hF5 hmany hVF hwant hel hsame HFD
          go_wp2_with fail
          refine HSM.out.mono ?_
          rintro e w6 ⟨rfl, hb6⟩
          have hd6 := HST.out.below hb6
          have H18 := Lib.hid (over_run _ _ _ _ _ _ w6 hd6)
          have H19 := Lib.hid (broken_run _ _ _ _ _ _ w6 hd6)
          have H20 := Lib.hid (held_run _ _ _ _ _ _ w6 hd6)
          have H21 := Lib.hid (junk_run _ _ _ _ _ _ w6 hd6)
          have HF6 := Lib.hid (HF5.out.next hb6)
          have hjk0 := HJK.out.1
          have hov0 := HJK.out.2.1
          clear hb6 hd6
          go_wp2_with fail
          refine H18.out.mono ?_
          rintro e w7 ⟨rfl, hw7⟩
          subst hw7
          go_wp2_with fail
          refine H19.out.mono ?_
          rintro e w7 ⟨rfl, hw7⟩
          subst hw7
          go_wp2_with fail
          refine H20.out.mono ?_
          rintro e w7 ⟨rfl, hw7⟩
          subst hw7
          rw [show St.held { (⟨m, false, false, [], F, jk, ov, 0⟩ : St) with found := [] } = 0 from rfl]
          go_wp2_with fail
          refine H21.out.mono ?_
          rintro e w7 ⟨rfl, hw7⟩
          subst hw7
          have hjd : decide (0 ≤ jk) = true := by simpa using hjk0
          by_cases hov : 0 < ov
          · have hovd : decide (0 < ov) = true := by simpa using hov
            go_wp2_with fail
            go_ret
            exact ⟨rfl, HF6.out.grew⟩
          · have hovd : decide (0 < ov) = false := by simpa using hov
            have hjn : jk = ns := HJK.out.2.2 (by omega)
            subst hjn
            go_wp2_with fail
            refine H21.out.mono ?_
            rintro e w7 ⟨rfl, hw7⟩
            subst hw7
            go_wp2_with fail
            go_ret
            exact ⟨rfl, HF6.out.grew⟩
    · have hnjb : decide ((100 : Int) < (nj : Int)) = true := by simp; omega
      go_wp2_with fail
      refine (alive_any _).mono ?_
      rintro e w3 ⟨rfl, hq3⟩
      have HF3 := Lib.hid (HF1.out.next hq3)
      clear hq3
      go_wp2_with fail
      go_ret
      exact ⟨rfl, HF3.out.grew⟩
end Go.Proofs.YthhbohpmbkdkeaaDoor
