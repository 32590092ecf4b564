/- The walk of law05.DeframeResets. -/
import Derived.Test.YthhbohpmbkdkeaaSq
namespace Go.Proofs.Ythhbohpmbkdkeaa
open Go.RowKit

theorem DAt.drewN {B bd : Nat} {nv fv : Value} {vs : List Value} {s : St} {w : World} (h : DAt B bd nv fv vs s w) (n : Nat) : DAt B bd nv fv vs s (w.drewN n) := h.below (below_drewN (Below.refl _ _) n)
theorem DAt.alloc {B bd : Nat} {nv fv : Value} {vs : List Value} {s : St} {w : World} (h : DAt B bd nv fv vs s w) (o : Obj) : DAt B bd nv fv vs s (w.alloc o) := h.below ((Below.refl _ _).alloc (Nat.le_refl _) _)

section
variable {B bd : Nat} {nv fv : Value} {vs : List Value} {s : St} {w : World} (h : DAt B bd nv fv vs s w) (n : Nat) (p : Int)
include h
theorem held_q (hp : s.held = p) : Calls Try.prog 15 #[.pointer (some ⟨bd, 0, none⟩)] (w.drewN n) fun e w' => e = .returned (.int .i64 p) ∧ ∃ m, w' = w.drewN m :=
  Calls.quiet_of_same (by rw [← hp]; exact held_run B bd nv fv vs s _ (h.drewN n))
theorem junk_q (hp : s.junk = p) : Calls Try.prog 16 #[.pointer (some ⟨bd, 0, none⟩)] (w.drewN n) fun e w' => e = .returned (.int .i64 p) ∧ ∃ m, w' = w.drewN m :=
  Calls.quiet_of_same (by rw [← hp]; exact junk_run B bd nv fv vs s _ (h.drewN n))
theorem over_q (hp : s.over = p) : Calls Try.prog 17 #[.pointer (some ⟨bd, 0, none⟩)] (w.drewN n) fun e w' => e = .returned (.int .i64 p) ∧ ∃ m, w' = w.drewN m :=
  Calls.quiet_of_same (by rw [← hp]; exact over_run B bd nv fv vs s _ (h.drewN n))
theorem broken_q (hp : s.broken = p) : Calls Try.prog 18 #[.pointer (some ⟨bd, 0, none⟩)] (w.drewN n) fun e w' => e = .returned (.int .i64 p) ∧ ∃ m, w' = w.drewN m :=
  Calls.quiet_of_same (by rw [← hp]; exact broken_run B bd nv fv vs s _ (h.drewN n))
end

/-- a row of rows of bytes, read -/
structure Rows2 (B : Nat) (fv : Value) (vs : List Value) (xs : List (List Int)) (w : World) : Prop where
  row : w.ownsRow B 30 1 fv vs.length vs
  many : vs.length = xs.length
  els : ∀ (i : Nat) (v : Value) (bs : List Int), vs[i]? = some v → xs[i]? = some bs → BytesAt w B v bs
theorem Rows2.below {B : Nat} {fv : Value} {vs : List Value} {xs : List (List Int)} {w w' : World} (h : Rows2 B fv vs xs w) (hb : Below w.heap.size w w') : Rows2 B fv vs xs w' := by
  have hm : Moved w w' (fun _ => False) := ⟨hb.os, hb.tape, hb.output, hb.size, fun k hk _ => hb.block k hk⟩
  exact ⟨owns_moved h.row hm (fun _ _ e => e), h.many, fun i v bs hv hx => owns_moved (h.els i v bs hv hx) hm (fun _ _ e => e)⟩
theorem Rows2.text {B : Nat} {fv : Value} {vs : List Value} {xs : List (List Int)} {w : World} (h : Rows2 B fv vs xs w) (j : Nat) (hj : j < vs.length) : TextAt w (vs.getD j undef) (xs.getD j []) := by
  have hj2 : j < xs.length := by rw [← h.many]; exact hj
  have := text_of (h.els j _ _ (List.getElem?_eq_getElem hj) (List.getElem?_eq_getElem hj2))
  simpa [List.getD_eq_getElem?_getD, List.getElem?_eq_getElem hj, List.getElem?_eq_getElem hj2] using this

theorem same_q {B B' : Nat} {fv fv' : Value} {vs vs' : List Value} {xs : List (List Int)} {w : World} (h : Rows2 B fv vs xs w) (k : Rows2 B' fv' vs' xs w) (hn : vs.length ≤ 1000000) (n : Nat) :
    Calls Try.prog 14 #[fv, fv'] (w.drewN n) fun e w' => e = .returned (.bool true) ∧ ∃ m, w' = w.drewN m := by
  have hl : vs'.length = vs.length := by rw [h.many, k.many]
  have e1 := slice_of_owns h.row
  have e2 := slice_of_owns k.row
  rw [hl] at e2
  refine Calls.quiet_of (same_draws vs.length fv fv' _ _ (fun j => xs.getD j []) (w.drewN n) (by omega) e1 e2 (fun j hj => ?_) (fun j hj => ?_))
  · exact (h.text j hj).drewN n
  · exact (k.text j (by omega)).drewN n

theorem Out.rows {B : Nat} {nv : Value} {w0 : World} {fo : Value} {vs : List Value} {found : List (List Int)} {w : World} (h : Out B nv w0 fo vs found w) : Rows2 B fo vs found w := ⟨h.row, h.many, h.els⟩

/-- what the document tells of bytes -/
theorem read_tells (p : Option Addr) (n cp m : Nat) (bs : List Int) (w : World) (hm : m ≤ 65536) (ha : ArgB w p n bs) (hr : Room (St.fresh m) bs.length) :
    Calls Try.prog 13 #[.slice p n cp, .int .i64 m] w fun e w' => ∃ (fv : Value) (vs : List Value), e = .returned (.agg #[fv, .int .i64 ((St.fresh m).feed bs).held, .int .i64 ((St.fresh m).feed bs).junk, .int .i64 ((St.fresh m).feed bs).over, .int .i64 ((St.fresh m).feed bs).broken]) ∧
      Rows2 (w.heap.size + 2) fv vs ((St.fresh m).feed bs).found w' ∧ Below w.heap.size w w' :=
  (read_run p n cp m bs w hm ha hr).mono fun _ _ ⟨fv, _, vs, _, he, hr, hb⟩ => ⟨fv, vs, he, ⟨hr.row, hr.many, hr.els⟩, hb⟩

theorem Room.fresh (m : Nat) {n : Nat} (hn : n ≤ 1000000) : Room (St.fresh m) n := ⟨by simp [St.fresh]; omega, by simp [St.fresh]; omega, by simp [St.fresh]; omega, by simp [St.fresh]; omega⟩
theorem Room.outside {s : St} {n : Nat} (h : Room s n) : Room s.outside n := ⟨h.junk, h.over, h.broken, h.found⟩

theorem box_of {w : World} (o : Obj) {cs : Array Value} {t : TypeId} (ho : o = .cells cs t (0, 0)) (i : Nat) {v : Value} (hi : cs[i]? = some v) : (w.alloc o).cell? ⟨w.heap.size, i, none⟩ = some v := by
  subst ho; exact cell_of (heap_alloc_new w _) hi

set_option maxRecDepth 100000 in
set_option maxHeartbeats 4000000 in
theorem resets_any (n : Int) (p : Option Addr) (l cp : Nat) (xs : List Int) (q : Option Addr) (k cq : Nat) (ys : List Int) (w : World) (ha : ArgB w p l xs) (hb : ArgB w q k ys) :
    Calls Try.prog 6 #[.int .i64 n, .slice p l cp, .slice q k cq] w fun e w' => e = .returned (.bool true) ∧ Below w.heap.size w w' := by
  have HA := Lib.hid ha
  have HB := Lib.hid hb
  clear ha hb
  have hm := mostOf_in n
  go_enter Try.func6, Try.ntmps6
  go_wp2_with fail
  refine (alive_any _).mono ?_
  rintro e w1 ⟨rfl, hq1⟩
  have early : Calls Try.prog 8 #[] w1 fun e w' => e = .returned (.bool true) ∧ Below w.heap.size w w' := (alive_any _).mono fun e w' ⟨a, b⟩ => ⟨a, hq1.trans (b.mono hq1.size)⟩
  by_cases hl : l ≤ 2000
  · have hlb : decide ((2000 : Int) < (l : Int)) = false := by simp; omega
    by_cases hlk : k ≤ 2000
    · have hlkb : decide ((2000 : Int) < (k : Int)) = false := by simp; omega
      go_wp2_with fail
      have HM : Hid (∀ w, Calls Try.prog 11 #[.int .i64 n] w fun e w' => e = .returned (.int .i64 (mostOf n)) ∧ w = w') := Lib.hid (fun w => (most_run n w).mono fun _ _ h => ⟨h.1, h.2.symm⟩)
      generalize mostOf n = m at hm HM
      refine (HM.out _).mono ?_
      rintro e w' ⟨rfl, rfl⟩
      go_wp2_with fail
      refine (new_run m _ hm.1 (by omega)).mono ?_
      rintro e w2 ⟨rfl, hd2, hq2⟩
      have HD2 := Lib.hid hd2
      clear hd2 early
      go_wp2_with fail
      have hxl := HA.out.len
      have hyl := HB.out.len
      have hwa : w.heap.size ≤ w1.heap.size := hq1.size
      have hb2 : Below w.heap.size w w2 := hq1.trans (hq2.mono hwa)
      have hroom : Room (St.fresh m) (ys.length + xs.length) := Room.fresh m (by omega)
      refine (feed_run (w1.heap.size + 1) w1.heap.size l cp p (.slice none 0 0) (St.fresh m) xs w2 HD2.out (hroom.mono (by omega)) hxl (HA.out.src hb2 hwa (fun k hk => by simp [Value.ownBlock] at hk))).mono ?_
      rintro e w3 ⟨nv3, fo3, vs3, rfl, hf3⟩
      have hb3 : Below w.heap.size w w3 := Moved.below hb2 hf3.moved (fun k hk => by
        rcases hk with hk | hk
        · omega
        · simp [Value.ownBlock] at hk)
      have hs3 : w1.heap.size < w3.heap.size := Nat.lt_of_lt_of_le HD2.out.size hf3.moved.size
      have H3 := Lib.hid (And.intro hf3.st hb3)
      have HR := Lib.hid hroom
      clear hf3 hb3 hb2 hroom hq1 hq2
      go_wp2_with fail
      refine (reset_run _ _ _ _ _ H3.out.1).mono ?_
      rintro e w4 ⟨rfl, hd4, hm4⟩
      obtain ⟨S, hS⟩ : ∃ S, S = (St.fresh m).feed xs := ⟨_, rfl⟩
      have hsm : Room S ys.length := by rw [hS]; exact Room.feed HR.out
      have hmost : S.most = m := by rw [hS]; exact feed_most xs (St.fresh m)
      rw [← hS] at hd4
      have hst : DAt (w1.heap.size + 1) w1.heap.size (.slice none 0 0) (.slice none 0 0) [] ((St.fresh m).plus S.junk S.over S.broken) w4 := by
        have e := outside_fresh S
        rw [hmost] at e
        rw [← e]; exact hd4
      have hb4 : Below w.heap.size w w4 := Moved.below H3.out.2 hm4 (fun k hk => by omega)
      have hs4 : w3.heap.size ≤ w4.heap.size := hm4.size
      have hread := read_tells p l cp m xs w4 (by omega) (HA.out.below hb4) (Room.fresh m (by omega))
      rw [← hS] at hread
      have HRD := Lib.hid hread
      have H4 := Lib.hid (And.intro hst hb4)
      have HSM := Lib.hid hsm
      clear hS hd4 hm4 hst hb4 hread hsm hmost
      go_wp2_with fail
      refine (HM.out _).mono ?_
      rintro e w' ⟨rfl, rfl⟩
      go_wp2_with fail
      refine HRD.out.mono ?_
      rintro e w5 ⟨fv5, vs5, rfl, hr5, hb5⟩
      obtain ⟨ao5, cap5, rfl⟩ := owns_form hr5.row
      have hs5 := hb5.size
      have H5 := Lib.hid (And.intro (H4.out.1.below hb5) (H4.out.2.trans (hb5.mono H4.out.2.size)))
      clear hr5 hb5 HRD
      go_wp2_with fail
      obtain ⟨wB, hwB⟩ : ∃ wB : World, wB = w5.alloc (Obj.cells #[Value.slice ao5 vs5.length cap5, Value.int IntKind.i64 S.held, Value.int IntKind.i64 S.junk, Value.int IntKind.i64 S.over, Value.int IntKind.i64 S.broken] 34) := ⟨_, rfl⟩
      have f2 : wB.cell? ⟨w5.heap.size, 2, none⟩ = some (.int .i64 S.junk) := by rw [hwB]; exact box_of _ rfl 2 rfl
      have f3 : wB.cell? ⟨w5.heap.size, 3, none⟩ = some (.int .i64 S.over) := by rw [hwB]; exact box_of _ rfl 3 rfl
      have f4 : wB.cell? ⟨w5.heap.size, 4, none⟩ = some (.int .i64 S.broken) := by rw [hwB]; exact box_of _ rfl 4 rfl
      have HWB : Hid (DAt (w1.heap.size + 1) w1.heap.size (.slice none 0 0) (.slice none 0 0) [] ((St.fresh m).plus S.junk S.over S.broken) wB ∧ Below w.heap.size w wB) :=
        Lib.hid (by rw [hwB]; exact ⟨H5.out.1.alloc _, H5.out.2.alloc H5.out.2.size _⟩)
      rw [← hwB]
      clear hwB
      go_quiet (first
        | (go_at_call 15; exact held_q HWB.out.1 _ 0 rfl)
        | (go_at_call 16; exact junk_q HWB.out.1 _ S.junk (by show 0 + S.junk = S.junk; omega))
        | (go_at_call 17; exact over_q HWB.out.1 _ S.over (by show 0 + S.over = S.over; omega))
        | (go_at_call 18; exact broken_q HWB.out.1 _ S.broken (by show 0 + S.broken = S.broken; omega)))
      have HW2 : Hid (DAt (w1.heap.size + 1) w1.heap.size (.slice none 0 0) (.slice none 0 0) [] ((St.fresh m).plus S.junk S.over S.broken) (wB.drewN nq) ∧ Below w.heap.size w (wB.drewN nq)) := Lib.hid ⟨HWB.out.1.drewN nq, below_drewN HWB.out.2 nq⟩
      go_wp2_with fail
      have hroom2 : Room ((St.fresh m).plus S.junk S.over S.broken) ys.length := by
        have h := HSM.out
        exact ⟨by show 0 ≤ 0 + S.junk ∧ 0 + S.junk + _ ≤ _; have := h.junk; omega, by show 0 ≤ 0 + S.over ∧ 0 + S.over + _ ≤ _; have := h.over; omega, by show 0 ≤ 0 + S.broken ∧ 0 + S.broken + _ ≤ _; have := h.broken; omega, by show ([] : List (List Int)).length + _ ≤ _; simp; omega⟩
      refine (feed_run (w1.heap.size + 1) w1.heap.size k cq q (.slice none 0 0) _ ys (wB.drewN nq) HW2.out.1 hroom2 hyl (HB.out.src HW2.out.2 hwa (fun k hk => by simp [Value.ownBlock] at hk))).mono ?_
      rintro e w6 ⟨nv6, fo6, vs6, rfl, hf6⟩
      rw [feed_plus] at hf6
      have hno : ∀ i, i ≠ w1.heap.size → ¬ (i = w1.heap.size ∨ some i = (Value.slice none 0 0).ownBlock) := fun i hi h => by
        rcases h with h | h
        · exact hi h
        · simp [Value.ownBlock] at h
      have hb6 : Below w.heap.size w w6 := Moved.below HW2.out.2 hf6.moved (fun k hk => by
        rcases hk with hk | hk
        · omega
        · simp [Value.ownBlock] at hk)
      have hne5 : w5.heap.size ≠ w1.heap.size := by omega
      have hlt5 : w5.heap.size < (wB.drewN nq).heap.size := World.block_lt_of_cell? wB _ f2
      have hblk := hf6.moved.block w5.heap.size hlt5 (hno _ hne5)
      have g2 : w6.cell? ⟨w5.heap.size, 2, none⟩ = some (.int .i64 S.junk) := (World.cell?_of_block (w := wB.drewN nq) (a := ⟨w5.heap.size, 2, none⟩) hblk).trans f2
      have g3 : w6.cell? ⟨w5.heap.size, 3, none⟩ = some (.int .i64 S.over) := (World.cell?_of_block (w := wB.drewN nq) (a := ⟨w5.heap.size, 3, none⟩) hblk).trans f3
      have g4 : w6.cell? ⟨w5.heap.size, 4, none⟩ = some (.int .i64 S.broken) := (World.cell?_of_block (w := wB.drewN nq) (a := ⟨w5.heap.size, 4, none⟩) hblk).trans f4
      obtain ⟨ao6, cap6, rfl⟩ := owns_form hf6.out.row
      have hroomT : Room (St.fresh m) ys.length := Room.fresh m (by omega)
      have hread := read_tells q k cq m ys w6 (by omega) (HB.out.below hb6) hroomT
      obtain ⟨T, hT⟩ : ∃ T, T = (St.fresh m).feed ys := ⟨_, rfl⟩
      have hsmT : Small T := by rw [hT]; exact (Room.feed (n := 0) (by simpa using hroomT)).small
      rw [← hT] at hread hf6
      have HRD := Lib.hid hread
      have H6 := Lib.hid (And.intro hf6.st (And.intro hf6.out.rows hb6))
      have HST := Lib.hid hsmT
      clear hf6 hread hT hroomT hroom2 hno hne5 hlt5 hblk hb6 f2 f3 f4 hsmT
      go_wp2_with fail
      refine (HM.out _).mono ?_
      rintro e w' ⟨rfl, rfl⟩
      go_wp2_with fail
      refine HRD.out.mono ?_
      rintro e w7 ⟨fv7, vs7, rfl, hr7, hb7⟩
      obtain ⟨ao7, cap7, rfl⟩ := owns_form hr7.row
      have q2 := below_keeps hb7 g2
      have q3 := below_keeps hb7 g3
      have q4 := below_keeps hb7 g4
      have H7 : Hid (DAt (w1.heap.size + 1) w1.heap.size nv6 (.slice none 0 0) [] { (T.plus S.junk S.over S.broken) with found := [] } w7 ∧ Rows2 (w1.heap.size + 1) (.slice ao6 vs6.length cap6) vs6 T.found w7 ∧ Rows2 (w6.heap.size + 2) (.slice ao7 vs7.length cap7) vs7 T.found w7 ∧ Below w.heap.size w w7) :=
        Lib.hid ⟨H6.out.1.below hb7, H6.out.2.1.below hb7, hr7, H6.out.2.2.trans (hb7.mono H6.out.2.2.size)⟩
      clear hr7 hb7 HRD g2 g3 g4
      go_wp2_with fail
      obtain ⟨wC, hwC⟩ : ∃ wC : World, wC = w7.alloc (Obj.cells #[Value.slice ao7 vs7.length cap7, Value.int IntKind.i64 T.held, Value.int IntKind.i64 T.junk, Value.int IntKind.i64 T.over, Value.int IntKind.i64 T.broken] 34) := ⟨_, rfl⟩
      have r0 : wC.cell? ⟨w7.heap.size, 0, none⟩ = some (.slice ao7 vs7.length cap7) := by rw [hwC]; exact box_of _ rfl 0 rfl
      have r1 : wC.cell? ⟨w7.heap.size, 1, none⟩ = some (.int .i64 T.held) := by rw [hwC]; exact box_of _ rfl 1 rfl
      have r2 : wC.cell? ⟨w7.heap.size, 2, none⟩ = some (.int .i64 T.junk) := by rw [hwC]; exact box_of _ rfl 2 rfl
      have r3 : wC.cell? ⟨w7.heap.size, 3, none⟩ = some (.int .i64 T.over) := by rw [hwC]; exact box_of _ rfl 3 rfl
      have r4 : wC.cell? ⟨w7.heap.size, 4, none⟩ = some (.int .i64 T.broken) := by rw [hwC]; exact box_of _ rfl 4 rfl
      have p2 : wC.cell? ⟨w5.heap.size, 2, none⟩ = some (.int .i64 S.junk) := by rw [hwC]; exact alloc_keeps q2 _
      have p3 : wC.cell? ⟨w5.heap.size, 3, none⟩ = some (.int .i64 S.over) := by rw [hwC]; exact alloc_keeps q3 _
      have p4 : wC.cell? ⟨w5.heap.size, 4, none⟩ = some (.int .i64 S.broken) := by rw [hwC]; exact alloc_keeps q4 _
      have hal : Below w7.heap.size w7 wC := by rw [hwC]; exact (Below.refl _ _).alloc (Nat.le_refl _) _
      have H8 : Hid (DAt (w1.heap.size + 1) w1.heap.size nv6 (.slice none 0 0) [] { (T.plus S.junk S.over S.broken) with found := [] } wC ∧ Rows2 (w1.heap.size + 1) (.slice ao6 vs6.length cap6) vs6 T.found wC ∧ Rows2 (w6.heap.size + 2) (.slice ao7 vs7.length cap7) vs7 T.found wC ∧ Below w.heap.size w wC) :=
        Lib.hid ⟨H7.out.1.below hal, H7.out.2.1.below hal, H7.out.2.2.1.below hal, H7.out.2.2.2.trans (hal.mono H7.out.2.2.2.size)⟩
      have hv6 : vs6.length ≤ 1000000 := by rw [H8.out.2.1.many]; exact HST.out.found
      have sS := HSM.out.small
      have sT := HST.out
      have u1 : IntKind.i64.wrap (S.junk + T.junk) = S.junk + T.junk := IntWalk.i64_in _ (by have := sS.junk; have := sT.junk; omega)
      have u2 : IntKind.i64.wrap (S.over + T.over) = S.over + T.over := IntWalk.i64_in _ (by have := sS.over; have := sT.over; omega)
      have u3 : IntKind.i64.wrap (S.broken + T.broken) = S.broken + T.broken := IntWalk.i64_in _ (by have := sS.broken; have := sT.broken; omega)
      have x1 : T.junk + S.junk = S.junk + T.junk := by omega
      have x2 : T.over + S.over = S.over + T.over := by omega
      have x3 : T.broken + S.broken = S.broken + T.broken := by omega
      have HX := Lib.hid (And.intro x1 (And.intro x2 x3))
      rw [← hwC]
      clear hwC q2 q3 q4 hal sS sT x1 x2 x3
      go_quiet (first
        | (go_at_call 14; exact same_q H8.out.2.1 H8.out.2.2.1 hv6 _)
        | (go_at_call 15; exact held_q H8.out.1 _ T.held rfl)
        | (go_at_call 16; exact junk_q H8.out.1 _ (S.junk + T.junk) HX.out.1)
        | (go_at_call 17; exact over_q H8.out.1 _ (S.over + T.over) HX.out.2.1)
        | (go_at_call 18; exact broken_q H8.out.1 _ (S.broken + T.broken) HX.out.2.2))
      go_wp2_with fail
      exact bodyPost_ret (v := .bool true) (by simp [results, Try.results6, go_sem]) rfl ⟨rfl, below_drewN H8.out.2.2.2 _⟩
    · have hlkb : decide ((2000 : Int) < (k : Int)) = true := by simp; omega
      go_wp2_with fail
      refine early.mono ?_
      rintro e w3 ⟨rfl, hq3⟩
      go_wp2_with fail
      exact bodyPost_ret (v := .bool true) (by simp [results, Try.results6, go_sem]) rfl ⟨rfl, hq3⟩
  · have hlb : decide ((2000 : Int) < (l : Int)) = true := by simp; omega
    go_wp2_with fail
    refine early.mono ?_
    rintro e w3 ⟨rfl, hq3⟩
    go_wp2_with fail
    exact bodyPost_ret (v := .bool true) (by simp [results, Try.results6, go_sem]) rfl ⟨rfl, hq3⟩
end Go.Proofs.Ythhbohpmbkdkeaa
