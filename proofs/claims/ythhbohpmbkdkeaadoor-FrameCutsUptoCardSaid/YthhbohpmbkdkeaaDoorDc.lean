/- The walks of the deframer's inner methods. -/
import Derived.Test.YthhbohpmbkdkeaaDoorRows
import Derived.WalkKit
import Derived.WalkSpells
import Derived.WalkLawsBesides
import Derived.Laws.EntriesVeiled
import Derived.Lib.Hide
namespace Go.Proofs.YthhbohpmbkdkeaaDoor
open Go.RowKit

/-- where a deframer stands -/
structure St where
  most : Nat
  inn : Bool
  fin : Bool
  now : List Int
  found : List (List Int)
  junk : Int
  over : Int
  broken : Int

def St.outside (s : St) : St := { s with inn := false, fin := false, now := [] }
def St.begin (s : St) : St := { s with inn := true, fin := false, now := [] }
def St.lay (s : St) (bs : List Int) : St :=
  if s.most < (s.now ++ bs).length then St.outside { s with now := s.now ++ bs, over := s.over + 1 } else { s with now := s.now ++ bs }
def St.step (s : St) (c : Int) : St :=
  if s.inn = false then (if c = 11 then s.begin else { s with junk := s.junk + 1 })
  else if c = 11 then St.begin { s with broken := s.broken + 1 }
  else if s.fin = true ∧ c = 13 then St.outside { s with found := s.found ++ [s.now] }
  else if c = 28 ∧ s.fin = false then { s with fin := true }
  else if c = 28 then s.lay [28]
  else if s.fin = true then St.lay { s with fin := false } [28, c]
  else s.lay [c]

/-- the object's cells -/
abbrev nextOf (bd : Nat) (inn : Bool) : Value := .func (.func (if inn then 43 else 35)) #[.pointer (some ⟨bd, 0, none⟩)] #[]
abbrev objOf (bd : Nat) (s : St) (nv fv : Value) : Array Value :=
  #[.int .i64 s.most, nextOf bd s.inn, .bool s.inn, .bool s.fin, nv, fv, .int .i64 s.junk, .int .i64 s.over, .int .i64 s.broken]

/-- a row of bytes -/
abbrev BytesAt (w : World) (B : Nat) (v : Value) (bs : List Int) : Prop := w.ownsRow B 5 1 v bs.length (bs.map (.int .u8))

structure DAt (B bd : Nat) (nv fv : Value) (vs : List Value) (s : St) (w : World) : Prop where
  low : bd < B
  size : B ≤ w.heap.size
  obj : w.heap[bd]? = some (.cells (objOf bd s nv fv) 50 (0, 0))
  now : BytesAt w B nv s.now
  row : w.ownsRow B 23 1 fv vs.length vs
  many : vs.length = s.found.length
  els : ∀ (i : Nat) (v : Value) (bs : List Int), vs[i]? = some v → s.found[i]? = some bs → BytesAt w B v bs
  apart : ∀ v ∈ vs, v.ownBlock = none ∨ v.ownBlock ≠ nv.ownBlock
  len : s.now.length ≤ s.most ∧ s.most ≤ 65536

theorem cell_of {w : World} {b i : Nat} {cs : Array Value} {t : TypeId} {v : Value} (h : w.heap[b]? = some (.cells cs t (0, 0))) (hi : cs[i]? = some v) : w.cell? ⟨b, i, none⟩ = some v := by
  simp [World.cell?, h, hi]
theorem free_of {w : World} {b i : Nat} {cs : Array Value} {t : TypeId} (h : w.heap[b]? = some (.cells cs t (0, 0))) : w.frozen? ⟨b, i, none⟩ = false := by
  simp [World.frozen?, h]

/-- what may change: the object's block, and those of the rows named -/
structure Moved (w w' : World) (S : Nat → Prop) : Prop where
  os : w'.os = w.os
  tape : w'.tape = w.tape
  output : w'.output = w.output
  size : w.heap.size ≤ w'.heap.size
  block : ∀ k, k < w.heap.size → ¬ S k → w'.heap[k]? = w.heap[k]?

theorem Moved.refl (w : World) (S : Nat → Prop) : Moved w w S := ⟨rfl, rfl, rfl, Nat.le_refl _, fun _ _ _ => rfl⟩
theorem Moved.trans {a b c : World} {S T : Nat → Prop} (h : Moved a b S) (k : Moved b c T) (hT : ∀ i, i < a.heap.size → T i → S i) : Moved a c S :=
  ⟨k.os.trans h.os, k.tape.trans h.tape, k.output.trans h.output, Nat.le_trans h.size k.size, fun i h1 h2 => (k.block i (Nat.lt_of_lt_of_le h1 h.size) (fun e => h2 (hT i h1 e))).trans (h.block i h1 h2)⟩
theorem Moved.set {a b : World} {S : Nat → Prop} (h : Moved a b S) {p : Addr} (hp : S p.block) (u : Value) : Moved a (b.setCell p u) S :=
  ⟨h.os, h.tape, h.output, by simpa using h.size, fun k h1 h2 => (Below.heap_setCell _ _ _ _ (fun e => h2 (by rw [e]; exact hp))).trans (h.block k h1 h2)⟩

set_option maxHeartbeats 1000000 in
theorem outside_run (bd : Nat) (s : St) (nv fv : Value) (w : World) (ho : w.heap[bd]? = some (.cells (objOf bd s nv fv) 50 (0, 0))) :
    Calls Tryd.prog 29 #[.pointer (some ⟨bd, 0, none⟩)] w fun e w' => e = .returned (.tuple #[]) ∧ w'.heap[bd]? = some (.cells (objOf bd s.outside (.slice none 0 0) fv) 50 (0, 0)) ∧ Moved w w' (· = bd) := by
  have c1 := cell_of (i := 1) ho rfl
  have c2 := cell_of (i := 2) ho rfl
  have c3 := cell_of (i := 3) ho rfl
  have c4 := cell_of (i := 4) ho rfl
  have z1 := free_of (i := 1) ho
  have z2 := free_of (i := 2) ho
  have z3 := free_of (i := 3) ho
  have z4 := free_of (i := 4) ho
  have hmf : ∀ (fn : Fn) (first cap : Array Value) (w : World), (Instr.makeFunc fn first cap).run Tryd.prog w = .ok (.func fn first cap) w := fun _ _ _ _ => rfl
  have H := Lib.hid ho
  clear ho
  go_enter Tryd.func29, Tryd.ntmps29
  go_wp2_with fail
  have h1 := heap_setCell_same w bd 2 _ 50 (.bool false) H.out
  have h2 := heap_setCell_same _ bd 3 _ 50 (.bool false) h1
  have h3 := heap_setCell_same _ bd 4 _ 50 (.slice none 0 0) h2
  have h4 := heap_setCell_same _ bd 1 _ 50 (nextOf bd false) h3
  exact ⟨rfl, .tuple #[], results_none rfl _ _ _, rfl, h4, ((((Moved.refl w (· = bd)).set (p := ⟨bd, 2, none⟩) rfl _).set (p := ⟨bd, 3, none⟩) rfl _).set (p := ⟨bd, 4, none⟩) rfl _).set (p := ⟨bd, 1, none⟩) rfl _⟩

set_option maxHeartbeats 1000000 in
theorem begin_run (bd : Nat) (s : St) (nv fv : Value) (w : World) (ho : w.heap[bd]? = some (.cells (objOf bd s nv fv) 50 (0, 0))) :
    Calls Tryd.prog 39 #[.pointer (some ⟨bd, 0, none⟩)] w fun e w' => e = .returned (.tuple #[]) ∧ w'.heap[bd]? = some (.cells (objOf bd s.begin (.slice none 0 0) fv) 50 (0, 0)) ∧ Moved w w' (· = bd) := by
  have c1 := cell_of (i := 1) ho rfl
  have c2 := cell_of (i := 2) ho rfl
  have c3 := cell_of (i := 3) ho rfl
  have c4 := cell_of (i := 4) ho rfl
  have z1 := free_of (i := 1) ho
  have z2 := free_of (i := 2) ho
  have z3 := free_of (i := 3) ho
  have z4 := free_of (i := 4) ho
  have hmf : ∀ (fn : Fn) (first cap : Array Value) (w : World), (Instr.makeFunc fn first cap).run Tryd.prog w = .ok (.func fn first cap) w := fun _ _ _ _ => rfl
  have H := Lib.hid ho
  clear ho
  go_enter Tryd.func39, Tryd.ntmps39
  go_wp2_with fail
  have h1 := heap_setCell_same w bd 2 _ 50 (.bool true) H.out
  have h2 := heap_setCell_same _ bd 3 _ 50 (.bool false) h1
  have h3 := heap_setCell_same _ bd 4 _ 50 (.slice none 0 0) h2
  have h4 := heap_setCell_same _ bd 1 _ 50 (nextOf bd true) h3
  exact ⟨rfl, .tuple #[], results_none rfl _ _ _, rfl, h4, ((((Moved.refl w (· = bd)).set (p := ⟨bd, 2, none⟩) rfl _).set (p := ⟨bd, 3, none⟩) rfl _).set (p := ⟨bd, 4, none⟩) rfl _).set (p := ⟨bd, 1, none⟩) rfl _⟩

theorem skip_start (bd : Nat) (s : St) (nv fv : Value) (w : World) (ho : w.heap[bd]? = some (.cells (objOf bd s nv fv) 50 (0, 0))) :
    Calls Tryd.prog 35 #[.pointer (some ⟨bd, 0, none⟩), .int .u8 11] w fun e w' => e = .returned (.tuple #[]) ∧ w'.heap[bd]? = some (.cells (objOf bd s.begin (.slice none 0 0) fv) 50 (0, 0)) ∧ Moved w w' (· = bd) := by
  go_enter Tryd.func35, Tryd.ntmps35
  go_wp2_with fail
  refine (begin_run bd s nv fv w ho).mono ?_
  rintro e w' ⟨rfl, h1, h2⟩
  clear ho
  have H := Lib.hid (And.intro h1 h2)
  clear h1 h2
  go_wp2_with fail
  exact ⟨rfl, .tuple #[], results_none rfl _ _ _, rfl, H.out⟩

theorem skip_junk (bd : Nat) (s : St) (nv fv : Value) (w : World) (c : Int) (hc : (c == 11) = false) (hj : 0 ≤ s.junk ∧ s.junk ≤ 1000000) (ho : w.heap[bd]? = some (.cells (objOf bd s nv fv) 50 (0, 0))) :
    Calls Tryd.prog 35 #[.pointer (some ⟨bd, 0, none⟩), .int .u8 c] w fun e w' => e = .returned (.tuple #[]) ∧ w'.heap[bd]? = some (.cells (objOf bd { s with junk := s.junk + 1 } nv fv) 50 (0, 0)) ∧ Moved w w' (· = bd) := by
  have c6 : w.cell? ⟨bd, 6, none⟩ = some (.int .i64 s.junk) := cell_of (i := 6) ho rfl
  have z6 := free_of (i := 6) ho
  have H := Lib.hid ho
  clear ho
  go_enter Tryd.func35, Tryd.ntmps35
  go_wp2_with fail
  have h1 := heap_setCell_same w bd 6 _ 50 (.int .i64 (s.junk + 1)) H.out
  exact ⟨rfl, .tuple #[], results_none rfl _ _ _, rfl, h1, (Moved.refl w (· = bd)).set (p := ⟨bd, 6, none⟩) rfl _⟩
end Go.Proofs.YthhbohpmbkdkeaaDoor
