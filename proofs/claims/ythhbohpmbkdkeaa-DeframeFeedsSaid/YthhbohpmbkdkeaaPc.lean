/- law05.DeframePieces: what is needed beside the walk. -/
import Derived.Test.YthhbohpmbkdkeaaSm
import Derived.Laws.AppendOwnNone
namespace Go.Proofs.Ythhbohpmbkdkeaa
open Go.RowKit

def St.nf (s : St) : St := { s with found := [] }

theorem step_nf (s : St) (c : Int) : s.step c = { (s.nf.step c) with found := s.found ++ (s.nf.step c).found } := by
  obtain ⟨m, i, f, n, fo, j, o, b⟩ := s
  cases i <;> cases f <;> simp only [St.step, St.nf, St.begin, St.outside, St.lay]
  all_goals (repeat' split) <;> simp_all
  all_goals first
    | (have h0 : ¬ m < n.length + 1 := by omega
       simp only [if_neg h0]
       done)
    | (have h0 : ¬ m < n.length + 1 := by omega
       simp [if_neg h0]
       done)
    | (have h0 : ¬ m < n.length + 2 := by omega
       simp [if_neg h0])

theorem feed_nf : ∀ (bs : List Int) (s : St), s.feed bs = { (s.nf.feed bs) with found := s.found ++ (s.nf.feed bs).found } := by
  intro bs
  induction bs with
  | nil => intro s; simp [St.feed, St.nf]
  | cons c bs ih =>
    intro s
    show (s.step c).feed bs = { ((s.nf.step c).feed bs) with found := s.found ++ ((s.nf.step c).feed bs).found }
    rw [ih (s.step c), ih (s.nf.step c)]
    have h := step_nf s c
    have h1 : (s.step c).nf = (s.nf.step c).nf := by rw [h]; rfl
    have h2 : (s.step c).found = s.found ++ (s.nf.step c).found := by rw [h]
    rw [h1, h2]
    simp [List.append_assoc]

theorem feed_append (s : St) (xs ys : List Int) : s.feed (xs ++ ys) = (s.feed xs).feed ys := by simp [St.feed, List.foldl_append]

/-- fed piece by piece -/
theorem feed_piece (s : St) (xs ys : List Int) : (s.feed (xs ++ ys)).nf = ((s.feed xs).nf.feed ys).nf ∧ (s.feed (xs ++ ys)).found = (s.feed xs).found ++ ((s.feed xs).nf.feed ys).found := by
  rw [feed_append, feed_nf ys (s.feed xs)]
  exact ⟨rfl, rfl⟩

theorem Room.nf {s : St} {n : Nat} (h : Room s n) : Room s.nf n := ⟨h.junk, h.over, h.broken, by have := h.found; simp [St.nf]; omega⟩

/-- the texts of the values that a row holds -/
structure Texts (w : World) (B : Nat) (vals : List Value) (xs : List (List Int)) (nv : Value) : Prop where
  many : vals.length = xs.length
  els : ∀ (i : Nat) (v : Value) (bs : List Int), vals[i]? = some v → xs[i]? = some bs → BytesAt w B v bs
  apart : ∀ v ∈ vals, v.ownBlock = none ∨ v.ownBlock ≠ nv.ownBlock

/-- they stay where another deframer is fed -/
theorem Texts.fed {w w' : World} {B bf : Nat} {vals : List Value} {xs : List (List Int)} {nv nv' fo : Value} {vs : List Value} {s' : St} (h : Texts w B vals xs nv) (hb : bf < B) (hf : Fed B bf nv w nv' fo vs s' w') :
    Texts w' B (vals ++ vs) (xs ++ s'.found) nv' := by
  have old : ∀ (i : Nat) (v : Value) (bs : List Int), vals[i]? = some v → xs[i]? = some bs → BytesAt w' B v bs := fun i v bs hv hx => by
    have h0 := h.els i v bs hv hx
    refine owns_moved h0 hf.moved (fun k hk => ?_)
    rintro (e | e)
    · have := (h0.lt k hk).1; omega
    · rcases h.apart v (List.mem_of_getElem? hv) with a | a
      · rw [a] at hk; cases hk
      · exact a (hk.trans e)
  refine ⟨by simp [h.many, hf.out.many], fun i v bs hv hx => ?_, fun v hv => ?_⟩
  · by_cases hi : i < vals.length
    · rw [List.getElem?_append_left hi] at hv
      rw [List.getElem?_append_left (by rw [← h.many]; exact hi)] at hx
      exact old i v bs hv hx
    · rw [List.getElem?_append_right (by omega)] at hv
      rw [List.getElem?_append_right (by rw [← h.many]; omega), ← h.many] at hx
      exact hf.out.els _ v bs hv hx
  · rcases List.mem_append.1 hv with hv | hv
    · refine hf.nf.apart (fun k hk => ?_) (h.apart v hv)
      obtain ⟨i, hi⟩ := List.getElem?_of_mem hv
      have hlt : i < xs.length := by rw [← h.many]; exact (List.getElem?_eq_some_iff.1 hi).1
      exact ((h.els i v _ hi (List.getElem?_eq_getElem hlt)).lt k hk).2
    · exact hf.out.apart v hv

/-- they stay where a row of slices grows -/
theorem Texts.grown {w w' : World} {B B2 : Nat} {vals : List Value} {xs : List (List Int)} {nv gv : Value} {n : Nat} {ys : List Value} (h : Texts w B vals xs nv) (hg : w.ownsRow B2 30 1 gv n ys) (hgr : w.grownBy w' gv.ownBlock) : Texts w' B vals xs nv := by
  refine ⟨h.many, fun i v bs hv hx => ?_, h.apart⟩
  have h0 := h.els i v bs hv hx
  refine owns_moved h0 (Moved.of_grown hgr) (fun k hk e => ?_)
  exact owns_apart (B := 0) (owns_base h0 (Nat.zero_le _)) (owns_base hg (Nat.zero_le _)) (by decide) k hk e

/-- append of a whole row, nil or not -/
theorem wpList_append_rows {P : Program} {w : World} {ops : Array Oper} {rest : List Oper} {o : Oper} {a : Act} {Q : Exit → Act → World → Prop} (hgd : o.guard = none) (s x : Operand) (t : TypeId)
    (ho : o.op = .call { callee := .builtin .append, args := #[s, x], argTypes := #[t, t] })
    (base base' : Nat) (e : TypeId) (i : TypeInfo) (z : Value) (bytes : Nat) (ht : P.underlying t = some (.slice e)) (hi : P.info? e = some i) (hz : i.zero = some z)
    (hsize : i.size = 1) (hby : i.bytes = bytes) (hzs : z.cells.size = 1)
    (v : Value) (n : Nat) (xs : List Value) (hs : a.eval s = v) (hown : w.ownsRow base e 1 v n xs)
    (fo : Value) (m : Nat) (news : List Value) (hx : a.eval x = fo) (hsrc : w.ownsRow base' e 1 fo m news) (h1 : ∀ u ∈ news, u.oneCell' = true)
    (h63 : n + m ≤ maxLen) (hbytes : (n + m) * bytes ≤ 140737488355328) (hbase : base ≤ w.heap.size)
    (h : ∀ v' w', w'.ownsRow base e 1 v' (n + m) (xs ++ news) → w.grownBy w' v.ownBlock → wpList P ops Q rest (a.put o.dst v') w') : wpList P ops Q (o :: rest) a w := by
  have hl : news.length = m * 1 := hsrc.1
  rcases hsrc.2 with ⟨rfl, rfl⟩ | ⟨g, cap, cur, rfl, _⟩
  · have hn : news = [] := List.eq_nil_of_length_eq_zero (by simpa using hl)
    subst hn
    exact wpList_append_own_none hgd s x t ho base e i 1 ht hi v n xs hs hown hx (h v w (by simpa using hown) (World.grownBy.refl w _))
  · exact wpList_append_own w hgd s x t ho base e i z 1 bytes ht hi hz hsize hby hzs (by decide) v n xs hs hown ⟨g, 0, none⟩ m cap news hx hl (hsrc.cells rfl) h1 h63 hbytes hbase (fun v' w' h2 h3 _ => h v' w' h2 h3)
end Go.Proofs.Ythhbohpmbkdkeaa
