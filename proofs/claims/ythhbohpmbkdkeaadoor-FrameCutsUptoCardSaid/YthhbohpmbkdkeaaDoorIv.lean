/- Rows of bytes that a statement builds, none beside another's block; append as one step of a drawn region. -/
import Derived.Test.YthhbohpmbkdkeaaDoorFm
import Derived.Test.YthhbohpmbkdkeaaDoorLy
import Derived.Deep.AppendLies
namespace Go.Proofs.YthhbohpmbkdkeaaDoor
open Go.RowKit

def Apart (v v' : Value) : Prop := v.ownBlock = none ∨ v'.ownBlock = none ∨ v.ownBlock ≠ v'.ownBlock
theorem Apart.symm {v v' : Value} (h : Apart v v') : Apart v' v := by
  rcases h with h | h | h
  · exact .inr (.inl h)
  · exact .inl h
  · exact .inr (.inr (Ne.symm h))

structure Inv (w0 w : World) (rows : List (Value × List Int)) : Prop where
  grew : Below w0.heap.size w0 w
  own : ∀ r ∈ rows, w.ownsRow w0.heap.size 5 1 r.1 r.2.length (r.2.map (Value.int .u8))
  apart : rows.Pairwise (fun a b => Apart a.1 b.1)

theorem Inv.perm {w0 w : World} {rows rows' : List (Value × List Int)} (h : Inv w0 w rows) (hp : rows.Perm rows') : Inv w0 w rows' :=
  ⟨h.grew, fun r hr => h.own r (hp.mem_iff.2 hr), h.apart.perm hp (fun h => h.symm)⟩

theorem Inv.new {w0 w : World} {rows : List (Value × List Int)} (h : Inv w0 w rows) (bs : List Int) (hl : bs.length ≤ 100000) :
    Inv w0 (w.alloc (.cells (bs.map (Value.int .u8)).toArray 5 (0, 0))) ((.slice (some ⟨w.heap.size, 0, none⟩) bs.length bs.length, bs) :: rows) := by
  refine ⟨h.grew.alloc h.grew.size _, ?_, List.pairwise_cons.2 ⟨?_, h.apart⟩⟩
  · intro r hr
    rcases List.mem_cons.1 hr with rfl | hr
    · exact World.ownsRow_lit w _ bs.length h.grew.size (by unfold maxLen; omega) (by simp)
    · exact (h.own r hr).alloc _
  · intro r hr
    cases hb : r.1.ownBlock with
    | none => exact .inr (.inl hb)
    | some g =>
      refine .inr (.inr fun e => ?_)
      have h1 := ((h.own r hr).lt g hb).2
      rw [hb] at e
      simp [Value.ownBlock] at e
      omega

theorem Inv.app {w0 w w' : World} {rows : List (Value × List Int)} {v v' : Value} {xs zs : List Int} (h : Inv w0 w ((v, xs) :: rows)) (hown : w'.ownsRow w0.heap.size 5 1 v' zs.length (zs.map (Value.int .u8)))
    (hg : w.grownBy w' v.ownBlock) (hn : v'.ownBlock = v.ownBlock ∨ v'.ownBlock = some w.heap.size) : Inv w0 w' ((v', zs) :: rows) := by
  obtain ⟨h1, h2⟩ := List.pairwise_cons.1 h.apart
  have hv := h.own (v, xs) (List.mem_cons_self ..)
  refine ⟨h.grew.grown hg h.grew.size (fun k hk => (hv.lt k hk).1), ?_, List.pairwise_cons.2 ⟨?_, h2⟩⟩
  · intro r hr
    rcases List.mem_cons.1 hr with rfl | hr
    · exact hown
    · refine (h.own r (List.mem_cons_of_mem _ hr)).kept hg ?_
      rcases h1 r hr with e | e | e
      · cases hb : r.1.ownBlock with
        | none => exact .inl rfl
        | some g => exact .inr (by simp only at e; rw [e]; simp)
      · exact .inl e
      · exact .inr (Ne.symm e)
  · intro r hr
    rcases hn with e | e
    · have := h1 r hr
      unfold Apart at this ⊢
      simp only at this ⊢
      rw [e]
      exact this
    · cases hb : r.1.ownBlock with
      | none => exact .inr (.inl hb)
      | some g =>
        refine .inr (.inr fun e2 => ?_)
        have h3 := ((h.own r (List.mem_cons_of_mem _ hr)).lt g hb).2
        simp only at e2
        rw [e, hb] at e2
        simp at e2
        omega

/-- an append to the first row -/
theorem step_app {w0 w : World} {rows : List (Value × List Int)} {v : Value} {xs : List Int} (h : Inv w0 w ((v, xs) :: rows)) {ops : Array Oper} {o : Oper} {a : Act} {K : Act → World → Prop} {Q : Exit → Act → World → Prop} {E : Prop} (hgd : o.guard = none) (s x : Operand)
    (ho : o.op = .call { callee := .builtin .append, args := #[s, x], argTypes := #[23, 23] }) (hs : a.eval s = v) (p : Option Addr) (m c : Nat) (ys : List Int) (hx : a.eval x = .slice p m c) (hy : ArgC w p m c ys) (hm : 0 < m) (hlen : xs.length + m ≤ 100000)
    (hK : ∀ v' w', Inv w0 w' ((v', xs ++ ys) :: rows) → K (a.put o.dst v') w') : if Region.wanted o (yielded ops a.tmps) = true then Oper.wp Tryd.prog o a w K Q else E := by
  obtain ⟨b, off, y0, rfl, _⟩ := hy.toArgB.look (j := 0) hm
  obtain ⟨i, hi, hz, hsize, hby⟩ : ∃ i0, Tryd.prog.info? 5 = some i0 ∧ i0.zero = some (.int .u8 0) ∧ i0.size = 1 ∧ i0.bytes = 1 := info_parts (by kernel_rfl)
  have hnews : ∀ j u, (ys.map (Value.int .u8))[j]? = some u → w.cell? ((⟨b, off, none⟩ : Addr).add j) = some u := by
    intro j u hj
    rw [List.getElem?_map] at hj
    obtain ⟨y, hy2, rfl⟩ := Option.map_eq_some_iff.1 hj
    obtain ⟨b', off', hp, h1⟩ := hy.at_ j y hy2
    cases hp
    rw [Addr.add_lit]
    exact h1
  have hv := h.own (v, xs) (List.mem_cons_self ..)
  refine step_append_lies w hgd s x 23 ho w0.heap.size 5 i (.int .u8 0) 1 1 Tryd.underlying23 hi hz hsize hby rfl (by decide) v xs.length _ hs hv ⟨b, off, none⟩ m c (ys.map (Value.int .u8)) hx (by simp [hy.len]) hnews (by intro u hu; obtain ⟨y, _, rfl⟩ := List.mem_map.1 hu; rfl) hm (by unfold maxLen; omega) (by omega) h.grew.size _ rfl ?_
  intro g cap w' hown hg hat hlt
  refine hK _ w' (h.app (zs := xs ++ ys) ?_ hg ?_)
  · rw [List.length_append, List.map_append, hy.len]
    exact hown
  · rcases hat with e | e
    · exact .inl e.symm
    · exact .inr (by rw [e]; rfl)

/-- a row, as an argument -/
theorem Inv.arg {w0 w : World} {rows : List (Value × List Int)} (h : Inv w0 w rows) {v : Value} {bs : List Int} (hr : (v, bs) ∈ rows) (hb : ByteL bs) : ∃ p c, v = .slice p bs.length c ∧ ArgC w p bs.length c bs := owned_arg (h.own _ hr) hb
end Go.Proofs.YthhbohpmbkdkeaaDoor
