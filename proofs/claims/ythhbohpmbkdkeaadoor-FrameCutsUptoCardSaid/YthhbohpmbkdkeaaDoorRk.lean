/- The rows of this seat: the condition on the variables, a world that meets it, arguments that are rows of bytes, opened. -/
import Derived.Test.YthhbohpmbkdkeaaDoorKit
import Derived.Test.YthhbohpmbkdkeaaDoorFg
import Derived.LaidMore
import Derived.LaidLaws
import Derived.LaidHandle
import Derived.HandedShaped
import Derived.Shelf.Vars
import Derived.ChangeSame
import Derived.ChangeVars
namespace Go.Proofs.YthhbohpmbkdkeaaDoor.Rk
open Go.ChangeShapes Go.WideShapes Go.ChangeAt Go.RowKit

/-- the listed variable -/
abbrev ends : List (String × DataW Unit) := [("lamplighter/frame.ends", Rows.laid_lamplighter_frame_ends)]

theorem own : ownKnob Tryd.prog.godebug = none := by kernel_rfl
theorem gEnds : Tryd.prog.globalNamed "lamplighter/frame.ends" = some 0 := by kernel_rfl
theorem tEnds : (Tryd.prog.globals[0]?).map (·.type) = some 51 := by kernel_rfl

theorem max_of {w : World} (h : w.ShapedOpen Tryd.prog) : ∃ m, w.cell? ⟨1, 0, none⟩ = some (.int .i64 m) :=
  Go.Proofs.cell_of_shapedOpen_int (zero := #[.int .i64 0]) (t := 3) h (of_decide_eq_true (by kernel_rfl)) (by kernel_rfl) rfl (by kernel_rfl) (by kernel_rfl) Tryd.underlying3

/-- what the condition gives a walk -/
theorem ends_of {W : World} (h : laidMetH Tryd.prog ends W) (hs : W.ShapedOpen Tryd.prog) : Ends W := by
  rw [MakeChecks.laidMetH_plain _ _ _ (by kernel_rfl)] at h
  obtain ⟨ps, ⟨g0, t0, cs0, f0, p0, q0, hg0, ht0, hv0, hd0, _, _⟩, _⟩ := h
  obtain rfl := Option.some.inj (gEnds.symm.trans hg0)
  obtain rfl := Option.some.inj (tEnds.symm.trans ht0)
  obtain ⟨xs, m1, rfl, hx1, hlen, hn3, hel⟩ := DataW.trod_array Tryd.underlying51 hd0
  have c5 : Tryd.prog.cellsOf 5 = 1 := by kernel_rfl
  have h0 := hel 0 (by decide)
  have h1 := hel 1 (by decide)
  simp only [Rows.laid_lamplighter_frame_ends, Prod.mk.injEq, DataW.agg.injEq] at hx1
  match xs, hn3, hx1, h0, h1 with
  | [x0, x1], _, hx1, h0, h1 =>
    simp only [List.map_cons, List.map_nil, List.cons.injEq] at hx1
    obtain ⟨k0, e1, e2, _⟩ := DataW.trod_int Tryd.underlying5 (show DataW.trod _ Tryd.prog W 0 _ false m1 5 _ = some x0 from h0)
    obtain ⟨k1, e3, e4, _⟩ := DataW.trod_int Tryd.underlying5 (show DataW.trod _ Tryd.prog W 0 _ false m1 5 _ = some x1 from h1)
    have hk0 : k0 = 28 := by rw [e2] at hx1; simpa using hx1.1.1.symm
    have hk1 : k1 = 13 := by rw [e4] at hx1; simpa using hx1.1.2.1.symm
    subst hk0; subst hk1
    have v0 := World.var?_cell hg0 hv0 0
    have v1 := World.var?_cell hg0 hv0 1
    obtain ⟨l0⟩ := cs0
    rw [c5] at e1 e3
    match l0, e1, e3 with
    | [], e1, _ => simp at e1
    | [c0], _, e3 => simp at e3
    | c0 :: c1 :: r, e1, e3 =>
      simp at e1 e3
      subst e1; subst e3
      exact ⟨by simpa using v0, by simpa using v1, max_of hs⟩

/-- The door's own heap meets the condition. -/
theorem door_met (os : Os) (args : Array Value) : laidMetH Tryd.prog ends ((World.doorLaid Tryd.prog 400 os).forCall (fun _ _ => 0) ⟨#[], args, []⟩).memory :=
  laidMetH_of_parts3 (fuel := 8) (laidMet_of_run' 8 (by kernel_rfl) (by kernel_rfl)) (by kernel_rfl) (by kernel_rfl)

/-- an argument that is a row of bytes, opened -/
theorem open_bytes {H : Type} {enc : TypeId × Value → H} {w : World} {spare : Nat → Bool} {held : Bool} {r : Reach} {b0 : Nat} {v : Value} {d : DataW H} {p : List MemPlace}
    (hv : Value.okWide Tryd.prog w r b0 23 v) (h : DataW.Trod enc Tryd.prog w 0 spare held 23 v d p) : ∃ (pa : Option Addr) (n cp : Nat) (bs : List Int), v = .slice pa n cp ∧ ArgC w pa n cp bs := by
  obtain ⟨a0, len, cap, rfl⟩ := okWide_slice Tryd.underlying23 hv
  obtain ⟨fuel, hf⟩ := h
  rcases open_ints Tryd.underlying23 Tryd.underlying5 (by kernel_rfl) hf with ⟨hcs, hx⟩ | ⟨a, len', cap', zs, hcs, _, hl, hm, hz, hx, hcell, hwz⟩
  · have hc : Value.cells (.slice a0 len cap) = #[.slice a0 len cap] := rfl
    simp [hc] at hcs
    obtain ⟨rfl, rfl, rfl⟩ := hcs
    exact ⟨none, 0, 0, [], rfl, ⟨rfl, fun j x hj => by simp at hj, fun x hx => by simp at hx⟩, Nat.le_refl _, fun _ => ⟨rfl, rfl⟩⟩
  · have hc : Value.cells (.slice a0 len cap) = #[.slice a0 len cap] := rfl
    simp [hc] at hcs
    obtain ⟨rfl, rfl, rfl⟩ := hcs
    have hlz : len ≤ zs.length := by rw [hz]; split <;> omega
    refine ⟨some a, len, cap, zs.take len, rfl, ⟨by rw [List.length_take]; omega, fun j x hj => ?_, fun x hx => ?_⟩, by omega, fun e => by cases e⟩
    · have hjl : j < len := by have := (List.getElem?_eq_some_iff.1 hj).1; rw [List.length_take] at this; omega
      rw [List.getElem?_take_of_lt hjl] at hj
      have hc0 := hcell j (by omega)
      obtain ⟨b, off, spot⟩ := a
      have hspot : spot = none := by
        have h00 := hcell 0 (by omega)
        simpa [Addr.add] using World.cell?_spot h00
      subst hspot
      rw [Addr.add_lit] at hc0
      refine ⟨b, off, rfl, ?_⟩
      rw [hc0, List.getD_eq_getElem?_getD, hj]
      rfl
    · exact Kit.u8_of (hwz x (List.mem_of_mem_take hx))

section
variable {H : Type} {enc : TypeId × Value → H}

/-- a row with a condition on the variables: the contract, with all that the row gives -/
theorem returns_both {C : Checked} {os : Os} {f : FuncId} {fn : Func} {s : ChangeSpec} {t : OpenSpec} {conds : List PathCond} {apart fresh handsOn again : Bool} {X : World → Prop}
    (hX : ∀ (w w' : World), w.heap = w'.heap → X w → X w')
    (own : ownKnob C.prog.godebug = none) (started : os.Started) (noInit : C.prog.inits.idxOf? f = none) (hfn : C.prog.funcs[f]? = some fn)
    (witness : ∃ (w : World) (tape : Tape) (i : Input), w.os = os ∧ (w.forCall tape i).Shaped C.prog ∧ i.vars = [] ∧ Input.okWide C.prog (w.forCall tape i) .any w.heap.size f i ∧
      ((s.pre enc C.prog fn conds apart (w.forCall tape i).memory i.args ∧ X (w.forCall tape i).memory) ∧ sizedMet enc C.prog fn t apart (w.forCall tape i).memory i.args) ∧ Assume.holds {} C.prog (lone (Frame.enter C.prog f i.args .normal) [] (w.forCall tape i)))
    (contract : ∀ (W : World) (base : Nat) (args : Array Value) (ds gs : List (DataW H)) (before : List MemPlace),
      (∀ (j : Nat) t v, fn.params[j]? = some t → args[j]? = some v → Value.okWide C.prog W .any base t v) →
      DataW.Whole enc C.prog fn.params.toList s.vars apart W args.toList ds gs before →
      W.ShapedOpen C.prog → X W → (∃ w0 : World, w0.heap = W.heap ∧ sizedMet enc C.prog fn t apart w0 args) →
      Calls C.prog f args W fun e W' => ∃ v, e = .returned v ∧ s.post enc C.prog fn apart fresh handsOn again W args v W') :
    ReturnsInHanded {} C os f .any (fun w args => (s.pre enc C.prog fn conds apart w args ∧ X w) ∧ sizedMet enc C.prog fn t apart w args) (s.post enc C.prog fn apart fresh handsOn again) := by
  refine returnsInHanded_of_calls own started noInit witness ?_
  intro w tape i _ hsh _ hok hpre _
  obtain ⟨_, _, _, fn', hfn', _, _, _, _, hval⟩ := hok
  have e : fn' = fn := Option.some.inj (hfn'.symm.trans hfn)
  subst e
  obtain ⟨⟨⟨ds, gs, before, hw, _⟩, hx⟩, hz⟩ := hpre
  have hw' := DataW.Whole.of_heap (w' := w.forCall tape i) (by rfl) hw
  refine (contract (w.forCall tape i) w.heap.size i.args ds gs before hval hw' hsh (hX _ _ (by rfl) hx) ⟨_, by rfl, hz⟩).mono fun e W' ⟨v, he, hp⟩ => ?_
  subst he
  exact ChangeSpec.post_blind hp
end

end Go.Proofs.YthhbohpmbkdkeaaDoor.Rk
