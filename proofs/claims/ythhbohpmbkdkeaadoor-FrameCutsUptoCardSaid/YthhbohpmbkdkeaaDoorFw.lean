/- frame.Wrap; append of bytes to an own row of bytes. -/
import Derived.Test.YthhbohpmbkdkeaaDoorFg
import Derived.Test.YthhbohpmbkdkeaaDoorAp
import Derived.Laws.AppendOwnNone
import Derived.Laws.MakeOwn
import Derived.Deep.AppendLies
import Derived.IntWalk
namespace Go.Proofs.YthhbohpmbkdkeaaDoor
open Go.RowKit

/-- an owned row of bytes, as an argument -/
theorem owned_arg {w : World} {B : Nat} {v : Value} {n : Nat} {bs : List Int} (h : w.ownsRow B 5 1 v n (bs.map (Value.int .u8))) (hb : ByteL bs) : ∃ p c, v = .slice p n c ∧ ArgC w p n c bs := by
  have hl : bs.length = n := by simpa using h.1
  rcases h.2 with ⟨rfl, h0⟩ | ⟨g, cap, cur, rfl, hg, hh, hn, hc⟩
  · subst h0
    obtain rfl : bs = [] := List.eq_nil_of_length_eq_zero hl
    exact ⟨none, 0, rfl, ⟨hl, fun j x hj => by simp at hj, hb⟩, Nat.le_refl _, fun _ => ⟨rfl, rfl⟩⟩
  · refine ⟨_, cap, rfl, ⟨hl, fun j x hj => ⟨g, 0, rfl, ?_⟩, hb⟩, by omega, fun e => by cases e⟩
    have := h.cells rfl j (.int .u8 x) (by simp [hj])
    rw [Addr.add_lit] at this
    exact this

/-- append of bytes to an own row of bytes -/
theorem at_append {w : World} {ops : Array Oper} {rest : List Oper} {o : Oper} {a : Act} {Q : Exit → Act → World → Prop} (hgd : o.guard = none) (s x : Operand)
    (ho : o.op = .call { callee := .builtin .append, args := #[s, x], argTypes := #[23, 23] })
    (base : Nat) (v : Value) (n : Nat) (xs : List Int) (hs : a.eval s = v) (hown : w.ownsRow base 5 1 v n (xs.map (Value.int .u8)))
    (A : Option Addr) (m c : Nat) (bs : List Int) (hx : a.eval x = .slice A m c) (hA : ArgC w A m c bs)
    (hbytes : n + m ≤ 140737488355328) (hbase : base ≤ w.heap.size)
    (h : ∀ v' w', w'.ownsRow base 5 1 v' (n + m) ((xs ++ bs).map (Value.int .u8)) → w.grownBy w' v.ownBlock → (v'.ownBlock = none ∨ Near w v v') → wpList Tryd.prog ops Q rest (a.put o.dst v') w') : wpList Tryd.prog ops Q (o :: rest) a w := by
  obtain ⟨i, hi, hz, hsize, hby⟩ : ∃ i0, Tryd.prog.info? 5 = some i0 ∧ i0.zero = some (.int .u8 0) ∧ i0.size = 1 ∧ i0.bytes = 1 := info_parts (by kernel_rfl)
  have ht := Tryd.underlying23
  have h63 : n + m ≤ maxLen := by unfold maxLen; omega
  have hb2 : (n + m) * 1 ≤ 140737488355328 := by omega
  have h' : ∀ v' w', w'.ownsRow base 5 1 v' (n + m) (xs.map (Value.int .u8) ++ bs.map (Value.int .u8)) → w.grownBy w' v.ownBlock → (v'.ownBlock = none ∨ Near w v v') → wpList Tryd.prog ops Q rest (a.put o.dst v') w' := fun v' w' h1 h2 h3 => h v' w' (by rw [List.map_append]; exact h1) h2 h3
  clear h
  cases A with
  | none =>
    obtain ⟨rfl, rfl⟩ := hA.nil rfl
    have hb : bs = [] := List.eq_nil_of_length_eq_zero hA.len
    subst hb
    exact wpList_append_own_none hgd s x 23 ho base 5 i 1 ht hi v n _ hs hown hx (h' v w (by simpa using hown) (World.grownBy.refl w _) (.inr (.inl rfl)))
  | some ad =>
    have hnews : ∀ j u, (bs.map (Value.int .u8))[j]? = some u → w.cell? (ad.add j) = some u := by
      intro j u hj
      rw [List.getElem?_map] at hj
      obtain ⟨y, hy, rfl⟩ := Option.map_eq_some_iff.1 hj
      obtain ⟨b, off, hp, h1⟩ := hA.at_ j y hy
      injection hp with hp
      rw [hp, Addr.add_lit]
      exact h1
    have hl : (bs.map (Value.int .u8)).length = m * 1 := by simp [hA.len]
    have h1 : ∀ u ∈ bs.map (Value.int .u8), u.oneCell' = true := by intro u hu; obtain ⟨y, _, rfl⟩ := List.mem_map.1 hu; rfl
    by_cases hm : 0 < m
    · exact wpList_append_near hgd s x 23 ho base 5 i (.int .u8 0) 1 1 ht hi hz hsize hby rfl (by decide) v n _ hs hown ad m c _ hx hl hnews h1 hm h63 hb2 hbase (fun v' w' h2 h3 h4 _ => h' v' w' h2 h3 (.inr h4))
    · have hm0 : m = 0 := by omega
      rcases hown.2 with ⟨rfl, hn⟩ | ⟨g, cap, cur, rfl, hg, hh, hn, hc, hcs, hcur⟩
      · exact wpList_append_own w hgd s x 23 ho base 5 i (.int .u8 0) 1 1 ht hi hz hsize hby rfl (by decide) _ n _ hs hown ad m c _ hx hl hnews h1 h63 hb2 hbase (fun v' w' h2 h3 h4 => h' v' w' h2 h3 (.inl (by rw [h4.2 ⟨rfl, hm0⟩]; rfl)))
      · exact wpList_append_fits w hgd s x 23 ho base 5 i 1 ht hi hsize g n cap _ hs hown ad m c _ hx hl hnews h1 (by omega) (fun w' ho' hg' => h' _ w' ho' hg' (.inr (.inl rfl)))

/-- a slice of the two end signs -/
theorem Ends.arg {w : World} (h : Ends w) : ArgC w (some ⟨0, 0, none⟩) 2 2 [28, 13] :=
  ⟨⟨rfl, fun j x hj => ⟨0, 0, rfl, by
    match j, hj with
    | 0, hj => simp at hj; subst hj; exact h.e0
    | 1, hj => simp at hj; subst hj; exact h.e1⟩, by decide⟩, Nat.le_refl _, fun e => by cases e⟩

/-- a row that was just written out -/
theorem new_arg (w : World) (g : Nat) (bs : List Int) (o : Obj) (hg : g = w.heap.size) (ho : o = .cells (bs.map (Value.int .u8)).toArray 5 (0, 0)) (hb : ByteL bs) (n : Nat) (hn : n = bs.length) : ArgC (w.alloc o) (some ⟨g, 0, none⟩) n n bs := by
  subst hg; subst ho; subst hn
  refine ⟨⟨rfl, fun j x hj => ⟨w.heap.size, 0, rfl, ?_⟩, hb⟩, Nat.le_refl _, fun e => by cases e⟩
  have := World.news_of_block (heap_alloc_new w (.cells (bs.map (Value.int .u8)).toArray 5 (0, 0))) j (.int .u8 x) (by simp [hj])
  rw [Addr.add_lit] at this
  exact this

theorem count_len (n : Nat) (hs : n < 4294967281) : countL (n : Int) = ((n + 3 : Nat) : Int) := by
  have h : wrap64 ((n : Int) + 3) = (n : Int) + 3 := by unfold wrap64; omega
  unfold countL
  rw [if_neg (by omega), h]
  omega

set_option maxRecDepth 100000 in
set_option maxHeartbeats 4000000 in
theorem wrap_no (p : Option Addr) (n c : Nat) (bs : List Int) (w : World) (ha : ArgC w p n c bs) (hs : n < 4294967281) (he : Ends w) (hg : goodL bs = false) :
    Calls Tryd.prog 15 #[.slice p n c] w fun e w' => e = .returned (.tuple #[.slice none 0 0, .int .i64 10]) ∧ ∃ q, w' = w.drewN q := by
  have h1 := good_run p n c bs w ha hs he
  rw [hg] at h1
  go_enter Tryd.func15, Tryd.ntmps15
  go_wp2_with fail
  refine h1.mono ?_
  rintro e w' ⟨rfl, q, rfl⟩
  go_wp2_with fail
  go_ret2
  exact ⟨rfl, q, rfl⟩

set_option maxRecDepth 100000 in
set_option maxHeartbeats 4000000 in
theorem wrap_yes (p : Option Addr) (n c : Nat) (bs : List Int) (w : World) (ha : ArgC w p n c bs) (hs : n < 4294967281) (he : Ends w) (hg : goodL bs = true) :
    Calls Tryd.prog 15 #[.slice p n c] w fun e w' => ∃ v, e = .returned (.tuple #[v, .int .i64 0]) ∧ w'.ownsRow w.heap.size 5 1 v (n + 3) ((wrapL bs).map (Value.int .u8)) ∧ Below w.heap.size w w' := by
  have h1 := good_run p n c bs w ha hs he
  rw [hg] at h1
  have hcn := count_len n hs
  go_enter Tryd.func15, Tryd.ntmps15
  go_wp2_with fail
  refine h1.mono ?_
  rintro e w1 ⟨rfl, q, rfl⟩
  go_wp2_with fail
  refine (count_run n _).mono ?_
  rintro e w2 ⟨rfl, rfl⟩
  rw [hcn]
  obtain ⟨i, hi, hz, hsize, hby⟩ : ∃ i0, Tryd.prog.info? 5 = some i0 ∧ i0.zero = some (.int .u8 0) ∧ i0.size = 1 ∧ i0.bytes = 1 := info_parts (by kernel_rfl)
  obtain ⟨w3, hmk, hown3, hg3⟩ := run_make_own (P := Tryd.prog) (w.drewN q) w.heap.size 23 5 i (.int .u8 0) 1 Tryd.underlying23 hi hz hsize .i64 .i64 (n + 3) (by rw [hby]; omega) (by unfold maxLen; omega) (Nat.le_refl _)
  have hb3 : Below w.heap.size w w3 := (below_drewN w q).grown hg3 (Nat.le_refl _) (by intro k hk; simp at hk)
  have HX := Lib.hid (And.intro hown3 (And.intro hb3 (And.intro ha he)))
  have hs3 : w.heap.size ≤ w3.heap.size := hb3.size
  simp only [Int.natCast_add, Int.cast_ofNat_Int] at hmk
  clear hi hz hsize hby hown3 hg3 hb3 h1 hcn ha he
  go_wp2_with ((at_builtin; refine at_append rfl _ _ rfl w.heap.size (.slice (some ⟨w.heap.size, 0, none⟩) 0 (n + 3)) 0 [] rfl (HX.out.1.alloc _) (some ⟨w3.heap.size, 0, none⟩) 1 1 [11] rfl (new_arg w3 _ [11] _ rfl rfl (by decide) 1 rfl) (by omega) (by simp; omega) ?_))
  intro v4 w4 hown4 hg4 _
  have hb4 : Below w.heap.size w w4 := (HX.out.2.1.alloc hs3 _).grown hg4 (by simp; omega) (by intro k hk; simp [Value.ownBlock] at hk; omega)
  have HY := Lib.hid (And.intro hown4 hb4)
  have hs4 : w.heap.size ≤ w4.heap.size := hb4.size
  clear hown4 hg4 hb4 hmk
  go_wp2_with ((at_builtin; refine at_append rfl _ _ rfl w.heap.size v4 1 [11] rfl HY.out.1 p n c bs rfl (HX.out.2.2.1.below HY.out.2) (by omega) hs4 ?_))
  intro v5 w5 hown5 hg5 _
  have hb5 : Below w.heap.size w w5 := HY.out.2.grown hg5 hs4 (fun k hk => (HY.out.1.lt k hk).1)
  have HZ := Lib.hid (And.intro hown5 hb5)
  have hs5 : w.heap.size ≤ w5.heap.size := hb5.size
  clear hown5 hg5 hb5
  go_wp2_with ((at_builtin; refine at_append rfl _ _ rfl w.heap.size v5 (1 + n) (11 :: bs) rfl HZ.out.1 (some ⟨0, 0, none⟩) 2 2 [28, 13] rfl (HX.out.2.2.2.below HZ.out.2).arg (by omega) hs5 ?_))
  intro v6 w6 hown6 hg6 _
  have hb6 : Below w.heap.size w w6 := HZ.out.2.grown hg6 hs5 (fun k hk => (HZ.out.1.lt k hk).1)
  have hown7 : w6.ownsRow w.heap.size 5 1 v6 (n + 3) ((wrapL bs).map (Value.int .u8)) := by
    rw [show n + 3 = 1 + n + 2 by omega]
    simpa [wrapL] using hown6
  have HU := Lib.hid (And.intro hown7 hb6)
  clear hown6 hown7 hg6 hb6
  go_wp2_with fail
  go_ret2
  exact ⟨v6, rfl, HU.out⟩
end Go.Proofs.YthhbohpmbkdkeaaDoor
