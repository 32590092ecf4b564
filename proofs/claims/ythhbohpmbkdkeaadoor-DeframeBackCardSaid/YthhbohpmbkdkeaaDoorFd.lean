/- The walk of deframe.Feed. -/
import Derived.Test.YthhbohpmbkdkeaaDoorTf
namespace Go.Proofs.YthhbohpmbkdkeaaDoor
open Go.RowKit

theorem take_steps (B bd : Nat) (nv fv : Value) (vs : List Value) (s : St) (c : Int) (w : World) (h : DAt B bd nv fv vs s w) (hs : Small s) (hi : s.inn = true) : Steps 43 B bd nv fv vs (s.step c) c w := by
  have hst : s.step c = if c = 11 then St.begin { s with broken := s.broken + 1 } else if s.fin = true ∧ c = 13 then St.outside { s with found := s.found ++ [s.now] } else if c = 28 ∧ s.fin = false then { s with fin := true }
      else if c = 28 then s.lay [28] else if s.fin = true then St.lay { s with fin := false } [28, c] else s.lay [c] := by rw [St.step, if_neg (by simp [hi])]
  rw [hst]
  by_cases h11 : c = 11
  · subst h11; rw [if_pos rfl]; exact take_start B bd nv fv vs s w h hs
  rw [if_neg h11]
  have b11 : (c == 11) = false := by simpa using h11
  cases hf : s.fin with
  | true =>
    by_cases h13 : c = 13
    · subst h13; rw [if_pos ⟨rfl, rfl⟩]; exact take_found B bd nv fv vs s w h hs hf
    rw [if_neg (fun e => h13 e.2), if_neg (fun e => by cases e.2)]
    by_cases h28 : c = 28
    · subst h28; rw [if_pos rfl]; exact take_end2 B bd nv fv vs s w h hs hf
    rw [if_neg h28, if_pos rfl]
    exact take_both B bd nv fv vs s c w h hs hf b11 (by simpa using h13) (by simpa using h28)
  | false =>
    rw [if_neg (fun e => by cases e.1)]
    by_cases h28 : c = 28
    · subst h28; rw [if_pos ⟨rfl, rfl⟩]; exact take_end B bd nv fv vs s w h hf
    rw [if_neg (fun e => h28 e.1), if_neg h28, if_neg (by decide)]
    exact take_one B bd nv fv vs s c w h hs hf b11 (by simpa using h28)

def St.feed (s : St) (bs : List Int) : St := bs.foldl St.step s

theorem lay_small (s : St) (bs : List Int) : (s.lay bs).junk = s.junk ∧ (s.lay bs).broken = s.broken ∧ (s.lay bs).found = s.found ∧ s.over ≤ (s.lay bs).over ∧ (s.lay bs).over ≤ s.over + 1 := by
  unfold St.lay
  split
  · exact ⟨rfl, rfl, rfl, by show s.over ≤ s.over + 1; omega, Int.le_refl _⟩
  · exact ⟨rfl, rfl, rfl, Int.le_refl _, by show s.over ≤ s.over + 1; omega⟩

theorem step_small (s : St) (c : Int) : s.junk ≤ (s.step c).junk ∧ (s.step c).junk ≤ s.junk + 1 ∧ s.over ≤ (s.step c).over ∧ (s.step c).over ≤ s.over + 1 ∧ s.broken ≤ (s.step c).broken ∧ (s.step c).broken ≤ s.broken + 1 ∧ (s.step c).found.length ≤ s.found.length + 1 := by
  unfold St.step
  repeat' split
  all_goals first
    | (simp [St.begin, St.outside]; omega)
    | (simp [St.begin, St.outside]; done)
    | (have h := lay_small s [28]; rw [h.1, h.2.1, h.2.2.1]; exact ⟨by omega, by omega, h.2.2.2.1, h.2.2.2.2, by omega, by omega, by omega⟩)
    | (have h := lay_small { s with fin := false } [28, c]; rw [h.1, h.2.1, h.2.2.1]; exact ⟨by simp, by simp; omega, h.2.2.2.1, h.2.2.2.2, by simp, by simp; omega, by simp⟩)
    | (have h := lay_small s [c]; rw [h.1, h.2.1, h.2.2.1]; exact ⟨by omega, by omega, h.2.2.2.1, h.2.2.2.2, by omega, by omega, by omega⟩)

structure Room (s : St) (n : Nat) : Prop where
  junk : 0 ≤ s.junk ∧ s.junk + n ≤ 1000000
  over : 0 ≤ s.over ∧ s.over + n ≤ 1000000
  broken : 0 ≤ s.broken ∧ s.broken + n ≤ 1000000
  found : s.found.length + n ≤ 1000000

theorem Room.small {s : St} {n : Nat} (h : Room s n) : Small s :=
  ⟨⟨h.junk.1, by have := h.junk; omega⟩, ⟨h.over.1, by have := h.over; omega⟩, ⟨h.broken.1, by have := h.broken; omega⟩, by have := h.found; omega⟩
theorem Room.step {s : St} {n : Nat} (h : Room s (n + 1)) (c : Int) : Room (s.step c) n := by
  obtain ⟨a1, a2, a3, a4, a5, a6, a7⟩ := step_small s c
  obtain ⟨b1, b2, b3, b4⟩ := h
  exact ⟨by omega, by omega, by omega, by omega⟩
theorem Room.mono {s : St} {n m : Nat} (h : Room s n) (hm : m ≤ n) : Room s m := by
  obtain ⟨b1, b2, b3, b4⟩ := h
  exact ⟨by omega, by omega, by omega, by omega⟩
theorem Room.feed : ∀ {bs : List Int} {s : St} {n : Nat}, Room s (n + bs.length) → Room (s.feed bs) n := by
  intro bs
  induction bs with
  | nil => intro s n h; simpa [St.feed] using h
  | cons c bs ih =>
    intro s n h
    rw [List.length_cons, ← Nat.add_assoc] at h
    exact ih (h.step c)

theorem Did.trans {B bd : Nat} {nv fv : Value} {vs : List Value} {w : World} {nv1 fv1 : Value} {vs1 : List Value} {s1 : St} {w1 : World} {nv2 fv2 : Value} {vs2 : List Value} {s2 : St} {w2 : World}
    (h : Did B bd nv fv vs w nv1 fv1 vs1 s1 w1) (k : Did B bd nv1 fv1 vs1 w1 nv2 fv2 vs2 s2 w2) : Did B bd nv fv vs w nv2 fv2 vs2 s2 w2 := by
  have hs := h.moved.size
  refine ⟨k.st, h.moved.trans k.moved (fun i hi hk => ?_), h.nf.trans k.nf hs, h.ff.trans k.ff hs, fun u hu => ?_⟩
  · rcases hk with hk | hk | hk
    · exact .inl hk
    · rcases h.nf with e | e | ⟨g, e, hg⟩
      · rw [e] at hk; cases hk
      · exact .inr (.inl (hk.trans e))
      · rw [e] at hk; injection hk with hk; omega
    · rcases h.ff with e | e | ⟨g, e, hg⟩
      · rw [e] at hk; cases hk
      · exact .inr (.inr (hk.trans e))
      · rw [e] at hk; injection hk with hk; omega
  · rcases k.vf u hu with hu | hu | ⟨g, hu, hg⟩
    · exact h.vf u hu
    · exact .inr (.inl hu)
    · exact .inr (.inr ⟨g, hu, by omega⟩)

theorem Did.refl {B bd : Nat} {nv fv : Value} {vs : List Value} {s : St} {w : World} (h : DAt B bd nv fv vs s w) : Did B bd nv fv vs w nv fv vs s w :=
  ⟨h, Moved.refl _ _, Fresh.same _ _, Fresh.same _ _, fun _ hu => .inl hu⟩

theorem step_any (B bd : Nat) (nv fv : Value) (vs : List Value) (s : St) (c : Int) (w : World) (h : DAt B bd nv fv vs s w) (hs : Small s) : Steps (if s.inn then 43 else 35) B bd nv fv vs (s.step c) c w := by
  cases hi : s.inn with
  | true => exact take_steps B bd nv fv vs s c w h hs hi
  | false => exact skip_steps B bd nv fv vs s c w h hs hi

/-- what is taken out: the frames that were found -/
structure Out (B : Nat) (nv : Value) (w0 : World) (fo : Value) (vs : List Value) (found : List (List Int)) (w : World) : Prop where
  row : w.ownsRow B 23 1 fo vs.length vs
  many : vs.length = found.length
  els : ∀ (i : Nat) (v : Value) (bs : List Int), vs[i]? = some v → found[i]? = some bs → BytesAt w B v bs
  apart : ∀ v ∈ vs, v.ownBlock = none ∨ v.ownBlock ≠ nv.ownBlock
  rowNew : fo.ownBlock = none ∨ ∃ g, fo.ownBlock = some g ∧ w0.heap.size ≤ g
  elsNew : ∀ v ∈ vs, v.ownBlock = none ∨ ∃ g, v.ownBlock = some g ∧ w0.heap.size ≤ g

structure Fed (B bd : Nat) (nv : Value) (w : World) (nv' fo : Value) (vs : List Value) (s' : St) (w' : World) : Prop where
  st : DAt B bd nv' (.slice none 0 0) [] { s' with found := [] } w'
  out : Out B nv' w fo vs s'.found w'
  moved : Moved w w' (fun k => k = bd ∨ some k = nv.ownBlock)
  nf : Fresh w nv nv'

theorem Did.fed {B bd : Nat} {nv : Value} {w : World} {nv' fo : Value} {vs : List Value} {s' : St} {w1 : World} (h : Did B bd nv (.slice none 0 0) [] w nv' fo vs s' w1) :
    Fed B bd nv w nv' fo vs s' (w1.setCell ⟨bd, 5, none⟩ (.slice none 0 0)) := by
  have hlow := h.st.low
  have hm : Moved w1 (w1.setCell ⟨bd, 5, none⟩ (.slice none 0 0)) (fun k => k = bd) := (Moved.refl w1 (fun k => k = bd)).set (p := ⟨bd, 5, none⟩) rfl _
  have far : ∀ {e : TypeId} {v : Value} {n : Nat} {xs : List Value}, w1.ownsRow B e 1 v n xs → (w1.setCell ⟨bd, 5, none⟩ (.slice none 0 0)).ownsRow B e 1 v n xs := fun hx =>
    owns_moved hx hm (fun k hk e => by have := (hx.lt k hk).1; omega)
  refine ⟨⟨hlow, by simpa using h.st.size, heap_setCell_same w1 bd 5 _ 50 (.slice none 0 0) h.st.obj, far h.st.now, World.ownsRow_nil _ _ _ _, rfl, fun i v bs hv => by simp at hv, fun v hv => by simp at hv, h.st.len⟩,
    ⟨far h.st.row, h.st.many, fun i v bs hv hb => far (h.st.els i v bs hv hb), h.st.apart, ?_, ?_⟩, ?_, h.nf⟩
  · rcases h.ff with e | e | e
    · exact .inl e
    · exact .inl e
    · exact .inr e
  · intro v hv
    rcases h.vf v hv with e | e
    · simp at e
    · exact e
  · refine (h.moved.weaken (fun k hk => ?_)).trans hm (fun k _ hk => .inl hk)
    rcases hk with hk | hk | hk
    · exact .inl hk
    · exact .inr hk
    · simp [Value.ownBlock] at hk

/-- bytes that are handed in: where they lie, apart from the deframer's own -/
def Src (w : World) (bd : Nat) (nv : Value) (p : Option Addr) (bs : List Int) : Prop :=
  ∀ j x, bs[j]? = some x → ∃ b off, p = some ⟨b, off, none⟩ ∧ b ≠ bd ∧ some b ≠ nv.ownBlock ∧ w.cell? ⟨b, off + j, none⟩ = some (.int .u8 x)

theorem Src.did {w w' : World} {B bd : Nat} {nv nv' fv' : Value} {vs' : List Value} {s' : St} {p : Option Addr} {bs : List Int} (h : Src w bd nv p bs) (hd : Did B bd nv (.slice none 0 0) [] w nv' fv' vs' s' w') : Src w' bd nv' p bs := by
  intro j x hj
  obtain ⟨b, off, hp, h1, h2, h3⟩ := h j x hj
  have hlt : b < w.heap.size := World.block_lt_of_cell? w ⟨b, off + j, none⟩ h3
  refine ⟨b, off, hp, h1, ?_, ?_⟩
  · rcases hd.nf with e | e | ⟨g, e, hg⟩
    · rw [e]; simp
    · rw [e]; exact h2
    · rw [e]; intro hh; injection hh with hh; omega
  · have hne : ¬ (b = bd ∨ some b = nv.ownBlock ∨ some b = (Value.slice none 0 0).ownBlock) := by
      rintro (hk | hk | hk)
      · exact h1 hk
      · exact h2 hk
      · simp [Value.ownBlock] at hk
    rw [World.cell?_of_block (w := w) (hd.moved.block b hlt hne)]
    exact h3

set_option maxHeartbeats 4000000 in
theorem feed_run (B bd n cp : Nat) (p : Option Addr) (nv : Value) (s : St) (bs : List Int) (w : World) (h : DAt B bd nv (.slice none 0 0) [] s w) (hr : Room s bs.length) (hn : bs.length = n) (hsrc : Src w bd nv p bs) :
    Calls Tryd.prog 16 #[.pointer (some ⟨bd, 0, none⟩), .slice p n cp] w fun e w' => ∃ nv' fo vs, e = .returned (.tuple #[fo, .int .i64 0]) ∧ Fed B bd nv w nv' fo vs (s.feed bs) w' := by
  have H0 := Lib.hid (Did.refl h)
  have HR := Lib.hid hr
  have HS := Lib.hid hsrc
  clear h hr hsrc
  have hnb : (n : Int) ≤ 1000000 := by have := HR.out.found; omega
  go_enter Tryd.func16, Tryd.ntmps16
  go_wp2_with fail
  go_loopw [13] (fun i wr => ∃ (k : Nat) (nv' fv' : Value) (vs' : List Value), i = .int .i64 k ∧ k ≤ n ∧ Did B bd nv (.slice none 0 0) [] w nv' fv' vs' (s.feed (bs.take k)) wr) (fun i _ => n - (intOf i).toNat)
  case atStart => exact ⟨0, _, _, _, rfl, by omega, H0.out⟩
  case round =>
    obtain ⟨k, nv', fv', vs', rfl, hk, hd⟩ := hrel
    have HD := Lib.hid hd
    clear hd
    by_cases hlt : k < n
    · have hkb : decide ((k : Int) < (n : Int)) = true := by simp; omega
      obtain ⟨c, hc⟩ : ∃ c, bs[k]? = some c := ⟨_, List.getElem?_eq_getElem (by omega)⟩
      obtain ⟨b, off, rfl, h1, h2, h3⟩ := HS.out.did HD.out k c hc
      have c1 : wr.cell? ⟨bd, 1, none⟩ = some (nextOf bd (s.feed (bs.take k)).inn) := cell_of (i := 1) HD.out.st.obj rfl
      have hsm : Small (s.feed (bs.take k)) := (Room.feed (n := 0) (bs := bs.take k) (HR.out.mono (by simp; omega))).small
      have HST := Lib.hid (step_any B bd nv' fv' vs' _ c wr HD.out.st hsm)
      have HT : Hid ((s.feed (bs.take k)).step c = s.feed (bs.take (k + 1))) := Lib.hid (by
        rw [List.take_add_one, hc]; simp [St.feed, List.foldl_append])
      cases hin : (s.feed (bs.take k)).inn with
      | true =>
        rw [hin] at c1 HST
        clear hin h1 h2 hsm
        go_wp2_with fail
        refine Calls.mono (show Calls Tryd.prog 43 _ _ _ from HST.out) ?_
        rintro e w1 ⟨rfl, nv1, fv1, vs1, hd1⟩
        have HD1 := Lib.hid (HD.out.trans hd1)
        clear hd1 HST
        go_wp2_with fail
        go_roundw
        case rel => exact ⟨k + 1, nv1, fv1, vs1, by go_num, by omega, by rw [← HT.out]; exact HD1.out⟩
        case measure => simp [intOf]; omega
      | false =>
        rw [hin] at c1 HST
        clear hin h1 h2 hsm
        go_wp2_with fail
        refine Calls.mono (show Calls Tryd.prog 35 _ _ _ from HST.out) ?_
        rintro e w1 ⟨rfl, nv1, fv1, vs1, hd1⟩
        have HD1 := Lib.hid (HD.out.trans hd1)
        clear hd1 HST
        go_wp2_with fail
        go_roundw
        case rel => exact ⟨k + 1, nv1, fv1, vs1, by go_num, by omega, by rw [← HT.out]; exact HD1.out⟩
        case measure => simp [intOf]; omega
    · have hkb : decide ((k : Int) < (n : Int)) = false := by simp; omega
      have hkn : k = n := by omega
      have HF := Lib.hid (HD.out.fed)
      have c5 : wr.cell? ⟨bd, 5, none⟩ = some fv' := cell_of (i := 5) HD.out.st.obj rfl
      have z5 := free_of (i := 5) HD.out.st.obj
      go_wp2_with fail
      rw [show bs.take k = bs from List.take_of_length_le (by omega)] at HF
      exact bodyPost_ret (v := .tuple #[fv', .int .i64 0]) (by simp [results, Tryd.results16, go_sem]) rfl ⟨nv', fv', vs', rfl, HF.out⟩
end Go.Proofs.YthhbohpmbkdkeaaDoor
