/- The walk of law03.GuardOthers. -/
import Derived.Test.YtdkgjllpmfanlaaMe
import Derived.LaidEql
import Derived.Deep.RegionHeld3
namespace Go.Proofs.Ytdkgjllpmfanlaa
open Go.RowKit

theorem neq_ptr (a : Addr) (w : World) : (binOp .neq 20 (.iface 45 (.pointer (some a))) (.iface 45 (.pointer (some a)))).run Try.prog w = .ok (.bool false) w := by
  obtain ⟨i, hi, hc⟩ := Option.map_eq_some_iff.1 (show (Try.prog.info? 45).map (·.comparable) = some true from by kernel_rfl)
  obtain ⟨j, hj, -⟩ := Option.map_eq_some_iff.1 (show (Try.prog.info? 28).map (·.size) = some 1 from by kernel_rfl)
  simp only [binOp]
  simp [Op.equal, Op.maxDepth, run_equalIn_iface_ptr_same w 9998 a Try.underlying20 Try.underlying45 hi hc hj]
theorem str_same (s : ByteArray) : (s == s) = true := by
  show (s.data == s.data) = true
  simp
theorem neq_str (s : ByteArray) (w : World) : (binOp .neq 20 (.iface 9 (.string s)) (.iface 9 (.string s))).run Try.prog w = .ok (.bool false) w := by
  obtain ⟨i, hi, hc⟩ := Option.map_eq_some_iff.1 (show (Try.prog.info? 9).map (·.comparable) = some true from by kernel_rfl)
  have h : ∀ d : Nat, (Op.equalIn (d + 2) 20 (.iface 9 (.string s)) (.iface 9 (.string s))).run Try.prog w = .ok true w := fun d => by
    simp [Op.equalIn, run_underlying Try.underlying20, run_underlying Try.underlying9, typeInfo, hi, hc, str_same]
  simp only [binOp]
  simp [Op.equal, Op.maxDepth, h 9998]
theorem neq_int (n : Int) (w : World) : (binOp .neq 20 (.iface 3 (.int .i64 n)) (.iface 3 (.int .i64 n))).run Try.prog w = .ok (.bool false) w := by
  obtain ⟨i, hi, hc⟩ := Option.map_eq_some_iff.1 (show (Try.prog.info? 3).map (·.comparable) = some true from by kernel_rfl)
  have h : ∀ d : Nat, (Op.equalIn (d + 2) 20 (.iface 3 (.int .i64 n)) (.iface 3 (.int .i64 n))).run Try.prog w = .ok true w := fun d => by
    simp [Op.equalIn, run_underlying Try.underlying20, run_underlying Try.underlying3, typeInfo, hi, hc]
  simp only [binOp]
  simp [Op.equal, Op.maxDepth, h 9998]
theorem neq_err (n : Int) (w : World) : (binOp .neq 20 (.iface 40 (.int .i64 n)) (.iface 40 (.int .i64 n))).run Try.prog w = .ok (.bool false) w := by
  obtain ⟨i, hi, hc⟩ := Option.map_eq_some_iff.1 (show (Try.prog.info? 40).map (·.comparable) = some true from by kernel_rfl)
  have h : ∀ d : Nat, (Op.equalIn (d + 2) 20 (.iface 40 (.int .i64 n)) (.iface 40 (.int .i64 n))).run Try.prog w = .ok true w := fun d => by
    simp [Op.equalIn, run_underlying Try.underlying20, run_underlying Try.underlying40, typeInfo, hi, hc]
  simp only [binOp]
  simp [Op.equal, Op.maxDepth, h 9998]

/-- what is not a crash -/
structure Odd (t : TypeId) (x : Value) : Prop where
  ne : t ≠ 28
  same : ∀ w, (binOp .neq 20 (.iface t x) (.iface t x)).run Try.prog w = .ok (.bool false) w

abbrev one (t : TypeId) (x : Value) : List PanicEntry := [{ v := .iface t x, recovered := false }]
abbrev two (t : TypeId) (x : Value) : List PanicEntry := [{ v := .iface t x, recovered := false }, { v := .iface t x, recovered := true }]

theorem c26_any (b : Nat) (t : TypeId) (x : Value) (w : World) (hc : w.cell? ⟨b, 0, none⟩ = some (.iface t x)) :
    Calls Try.prog 26 #[.pointer (some ⟨b, 0, none⟩)] w fun e w' => e = .panicked (one t x) ∧ w' = w := by
  go_enter Try.func26, Try.ntmps26
  go_wp2_with fail
  exact ⟨rfl, rfl, rfl⟩

/-- f and its variable, as they lie -/
structure Lain (b f : Nat) (t : TypeId) (x : Value) (w : World) : Prop where
  x : w.cell? ⟨b, 0, none⟩ = some (.iface t x)
  f : w.cell? ⟨f, 0, none⟩ = some (.func (.func 26) #[] #[.pointer (some ⟨b, 0, none⟩)])

theorem Lain.keep {b f : Nat} {t : TypeId} {x : Value} {w w' : World} (h : Lain b f t x w) (hb : Below w.heap.size w w') : Lain b f t x w' := ⟨below_keeps hb h.x, below_keeps hb h.f⟩

theorem run26 (b : Nat) (t : TypeId) (ht : t ≠ 28) (x : Value) (w : World) (hc : w.cell? ⟨b, 0, none⟩ = some (.iface t x)) :
    Calls Try.prog 18 #[.func (.func 26) #[] #[.pointer (some ⟨b, 0, none⟩)]] w fun e w' => e = .panicked (two t x) ∧ Below w.heap.size w w' := by
  refine (run_other 26 _ t ht x (enters_of Try.func26 (by decide) rfl _) w (fun w1 => w1 = boxed w) ((c26_any b t x (boxed w) (below_keeps (below_boxed w) hc)).mono ?_)).mono ?_
  · rintro e w1 ⟨rfl, rfl⟩
    exact ⟨rfl, ⟨Below.refl _ _, rfl, rfl⟩, rfl⟩
  · rintro e w' ⟨rfl, w1, rfl, hb⟩
    exact ⟨rfl, (below_boxed w).trans hb⟩

theorem c27_any (b f : Nat) (t : TypeId) (ht : t ≠ 28) (x : Value) (w : World) (h : Lain b f t x w) :
    Calls Try.prog 27 #[.pointer (some ⟨f, 0, none⟩)] w fun e w' => e = .panicked (two t x) ∧ Below w.heap.size w w' := by
  have hf := h.f
  have H := Lib.hid h
  clear h
  go_enter Try.func27, Try.ntmps27
  go_wp2_with fail
  refine (run26 b t ht x w H.out.x).mono ?_
  rintro e w' ⟨rfl, hb⟩
  go_wp2_with fail
  exact ⟨rfl, rfl, hb⟩

theorem c29_any (b f : Nat) (t : TypeId) (x : Value) (w : World) (h : Lain b f t x w) :
    Calls Try.prog 29 #[.pointer (some ⟨f, 0, none⟩)] w fun e w' => e = .panicked (one t x) ∧ w' = w := by
  have hf := h.f
  have hen : ∀ w, (callFunc 26 #[.pointer (some ⟨b, 0, none⟩)]).run Try.prog w = .ok (.enter 26 #[.pointer (some ⟨b, 0, none⟩)]) w := enters_of Try.func26 (by decide) rfl _
  have H := Lib.hid h
  clear h
  go_enter Try.func29, Try.ntmps29
  go_wp2_with fail
  refine (c26_any b t x w H.out.x).mono ?_
  rintro e w' ⟨rfl, rfl⟩
  go_wp2_with fail
  exact ⟨rfl, rfl, rfl⟩

theorem c28_any (b f : Nat) (t : TypeId) (ht : t ≠ 28) (x : Value) (w : World) (h : Lain b f t x w) :
    Calls Try.prog 28 #[.pointer (some ⟨f, 0, none⟩)] w fun e w' => e = .panicked (two t x) ∧ Below w.heap.size w w' := by
  have hmf : ∀ (fn : Fn) (first cap : Array Value) (w : World), (Instr.makeFunc fn first cap).run Try.prog w = .ok (.func fn first cap) w := fun _ _ _ _ => rfl
  have H := Lib.hid h
  clear h
  have he := enters_of (g := 29) Try.func29 (by decide) rfl #[.pointer (some ⟨f, 0, none⟩)]
  go_enter Try.func28, Try.ntmps28
  go_wp2_with fail
  refine (do_step 29 _ (.other t x) (fun u z h => by cases h; exact ht) he w (fun w' => Below w.heap.size w w') (fun w' => Below w.heap.size w w') (Nat.le_refl _) (fun _ _ a b => a.trans b) (fun _ _ a b => a.trans b) (Below.refl _ _)
    (fun w1 h1 _ => (c29_any b f t x w1 (H.out.keep h1)).mono fun e w2 ⟨a, b⟩ => ⟨a, b ▸ KeepFrom.refl _ _, b ▸ h1⟩)).mono ?_
  rintro e w' ⟨rfl, -, hb⟩
  unfold Out.told
  go_wp2_with fail
  exact ⟨rfl, rfl, hb⟩

/-- Row, where the first one's panic goes on -/
theorem row_other (g : FuncId) (cap : Array Value) (b n cp : Nat) (t : TypeId) (x : Value) (w : World) (hn : 0 < n) (h0 : w.cell? ⟨b, 0, none⟩ = some (.func (.func g) #[] cap))
    (h : ∀ w1, Below w.heap.size w w1 → Calls Try.prog 18 #[.func (.func g) #[] cap] w1 fun e w2 => e = .panicked (two t x) ∧ Below w1.heap.size w1 w2) :
    Calls Try.prog 12 #[.slice (some ⟨b, 0, none⟩) n cp] w fun e w' => e = .panicked (two t x) ∧ Below w.heap.size w w' := by
  have H := Lib.hid h
  clear h
  go_enter Try.func12, Try.ntmps12
  go_wp2_with fail
  go_loopw [11] (fun i wr => i = .int .i64 0 ∧ wr = w.alloc (.cells #[.int .i64 0] 28)) (fun i _ => 0)
  case atStart => exact ⟨rfl, rfl⟩
  case round =>
    obtain ⟨rfl, rfl⟩ := hrel
    have hb : decide ((0 : Int) < (n : Int)) = true := by simp; omega
    have hc := alloc_keeps h0 (.cells #[.int .i64 0] 28)
    go_wp2_with fail
    refine (H.out _ ((Below.refl _ _).alloc (Nat.le_refl _) _)).mono ?_
    rintro e w2 ⟨rfl, hq⟩
    go_wp2_with fail
    exact ⟨rfl, rfl, ((Below.refl _ _).alloc (Nat.le_refl _) _).trans (hq.mono (by simp))⟩

theorem c30_any (b f a : Nat) (t : TypeId) (ht : t ≠ 28) (x : Value) (w : World) (h : Lain b f t x w) :
    Calls Try.prog 30 #[.pointer (some ⟨f, 0, none⟩), .pointer (some ⟨a, 0, none⟩)] w fun e w' => e = .panicked (two t x) ∧ Below w.heap.size w w' := by
  have hmf : ∀ (fn : Fn) (first cap : Array Value) (w : World), (Instr.makeFunc fn first cap).run Try.prog w = .ok (.func fn first cap) w := fun _ _ _ _ => rfl
  have hf := h.f
  have H := Lib.hid h
  clear h
  go_enter Try.func30, Try.ntmps30
  go_wp2_with fail
  have hb0 : Below w.heap.size w (w.alloc (.cells #[.func (.func 26) #[] #[.pointer (some ⟨b, 0, none⟩)], .func (.func 31) #[] #[.pointer (some ⟨a, 0, none⟩)]] 1)) := (Below.refl _ _).alloc (Nat.le_refl _) _
  refine (row_other 26 #[.pointer (some ⟨b, 0, none⟩)] w.heap.size 2 2 t x _ (by decide) (by simp [go_sem]) (fun w1 h1 => run26 b t ht x w1 (below_keeps h1 (below_keeps hb0 H.out.x)))).mono ?_
  rintro e w' ⟨rfl, hb⟩
  go_wp2_with fail
  exact ⟨rfl, rfl, hb0.trans (hb.mono (by simp))⟩

theorem meets_two (g : FuncId) (cap : Array Value) (t : TypeId) (x : Value) (he : Enters g cap) (w : World)
    (h : ∀ w1, Below w.heap.size w w1 → Calls Try.prog g cap w1 fun e w2 => e = .panicked (two t x) ∧ Below w1.heap.size w1 w2) :
    Calls Try.prog 32 #[.func (.func g) #[] cap] w fun e w' => e = .returned (.iface t x) ∧ Below w.heap.size w w' :=
  (meets_step g cap t x [{ v := .iface t x, recovered := true }] rfl he w (fun w' => Below w.heap.size w w') (fun w' => Below w.heap.size w w') (Nat.le_refl _) (fun _ _ a b => a.trans b) (fun _ _ a b => a.trans b) (Below.refl _ _)
    (fun w1 h1 hs => (h w1 h1).mono fun _ _ ⟨a, b⟩ => ⟨a, KeepFrom.of_below b, h1.trans (b.mono hs)⟩)).mono fun _ _ ⟨a, _, b⟩ => ⟨a, b⟩

/-- the four that are no crash -/
def oddT : Nat → TypeId
  | 0 => 9
  | 1 => 3
  | 2 => 40
  | _ => 45
def oddV (s : ByteArray) (n : Int) (p : Nat) : Nat → Value
  | 0 => .string s
  | 1 => .int .i64 n
  | 2 => .int .i64 (n.tmod 100)
  | _ => .pointer (some ⟨p, 0, none⟩)
theorem odd_all (s : ByteArray) (n : Int) (p j : Nat) : Odd (oddT j) (oddV s n p j) := by
  match j with
  | 0 => exact ⟨by decide, neq_str s⟩
  | 1 => exact ⟨by decide, neq_int n⟩
  | 2 => exact ⟨by decide, neq_err _⟩
  | j + 3 => exact ⟨show (45 : Nat) ≠ 28 by decide, neq_ptr _⟩

theorem tmod100 (x : Int) : -100 < x.tmod 100 ∧ x.tmod 100 < 100 := by
  have h0 := Int.tmod_lt_of_pos x (show (0:Int) < 100 by decide)
  have h1 := Int.tmod_lt_of_pos (-x) (show (0:Int) < 100 by decide)
  rw [Int.neg_tmod] at h1
  omega

def thrG : Nat → FuncId
  | 0 => 27
  | 1 => 28
  | _ => 30
def thrC (f a : Nat) : Nat → Array Value
  | 0 => #[.pointer (some ⟨f, 0, none⟩)]
  | 1 => #[.pointer (some ⟨f, 0, none⟩)]
  | _ => #[.pointer (some ⟨f, 0, none⟩), .pointer (some ⟨a, 0, none⟩)]

theorem thr_meets (b f a : Nat) (t : TypeId) (ht : t ≠ 28) (x : Value) (j : Nat) (w : World) (h : Lain b f t x w) :
    Calls Try.prog 32 #[.func (.func (thrG j)) #[] (thrC f a j)] w fun e w' => e = .returned (.iface t x) ∧ Below w.heap.size w w' := by
  match j with
  | 0 => exact meets_two 27 _ t x (enters_of Try.func27 (by decide) rfl _) w (fun w1 h1 => c27_any b f t ht x w1 (h.keep h1))
  | 1 => exact meets_two 28 _ t x (enters_of Try.func28 (by decide) rfl _) w (fun w1 h1 => c28_any b f t ht x w1 (h.keep h1))
  | j + 2 => exact meets_two 30 _ t x (enters_of Try.func30 (by decide) rfl _) w (fun w1 h1 => c30_any b f a t ht x w1 (h.keep h1))

set_option maxRecDepth 100000 in
set_option maxHeartbeats 4000000 in
theorem others_any (s : ByteArray) (n : Int) (w : World) : Calls Try.prog 8 #[.string s, .int .i64 n] w fun e w' => e = .returned (.bool true) ∧ Below w.heap.size w w' := by
  have hmf : ∀ (fn : Fn) (first cap : Array Value) (w : World), (Instr.makeFunc fn first cap).run Try.prog w = .ok (.func fn first cap) w := fun _ _ _ _ => rfl
  have ht := tmod100 n
  go_enter Try.func8, Try.ntmps8
  go_wp2_with fail
  refine (alive_any _).mono ?_
  rintro e w1 ⟨rfl, hq⟩
  by_cases hn : s.size ≤ 500
  · have hnb : decide ((500 : Int) < (s.size : Int)) = false := by simp; omega
    go_wp2_with fail
    obtain ⟨W0, hW0⟩ : ∃ W0 : World, W0 = (w1.alloc (Obj.cells #[Value.int IntKind.i64 n] 28)).alloc (Obj.cells #[Value.iface 9 (Value.string s), Value.iface 3 (Value.int IntKind.i64 n), Value.iface 40 (Value.int IntKind.i64 (n.tmod 100)), Value.iface 45 (Value.pointer (some ⟨w1.heap.size, 0, none⟩))] 20) := ⟨_, rfl⟩
    have HC : Hid (∀ j, j < 4 → W0.cell? ⟨w1.heap.size + 1, j, none⟩ = some (.iface (oddT j) (oddV s n w1.heap.size j))) := Lib.hid (fun j hj => by
      rw [hW0]
      match j, hj with
      | 0, _ => simp [go_sem, oddT, oddV]
      | 1, _ => simp [go_sem, oddT, oddV]
      | 2, _ => simp [go_sem, oddT, oddV]
      | 3, _ => simp [go_sem, oddT, oddV])
    have HB : Hid (Below w.heap.size w W0) := Lib.hid (by rw [hW0]; exact (hq.alloc hq.size _).alloc (by have := hq.size; simp; omega) _)
    rw [← hW0]
    clear hW0
    go_loopw [36] (fun i wr => ∃ k : Nat, i = .int .i64 k ∧ k ≤ 4 ∧ Below W0.heap.size W0 wr) (fun i _ => 4 - (intOf i).toNat)
    case atStart => exact ⟨0, rfl, by omega, Below.refl _ _⟩
    case round =>
      obtain ⟨k, rfl, hk, hqk⟩ := hrel
      obtain ⟨wo, rfl⟩ : ∃ wo : World, wo = wr := ⟨_, rfl⟩
      by_cases hk4 : k < 4
      · have hkb : decide ((k : Int) < 4) = true := by simp; omega
        have hc := below_keeps hqk (HC.out k hk4)
        have hodd := odd_all s n w1.heap.size k
        generalize oddT k = t at hc hodd
        generalize oddV s n w1.heap.size k = x at hc hodd
        have hu := hodd.ne
        have hneq := hodd.same
        clear hodd
        go_wp2_with fail
        refine (lost_other t hu x _).mono ?_
        rintro e w2 ⟨rfl, hq2⟩
        go_wp2_with fail
        obtain ⟨W1, hW1⟩ : ∃ W1 : World, W1 = (((w2.alloc (Obj.cells #[Value.int IntKind.i64 0] 28)).alloc (Obj.cells #[Value.func (Fn.func 26) #[] #[Value.pointer (some ⟨wo.heap.size, 0, none⟩)]] 1)).alloc (Obj.cells #[Value.int IntKind.i64 0] 3)).alloc
          (Obj.cells #[Value.func (Fn.func 27) #[] #[Value.pointer (some ⟨w2.heap.size + 1, 0, none⟩)], Value.func (Fn.func 28) #[] #[Value.pointer (some ⟨w2.heap.size + 1, 0, none⟩)],
            Value.func (Fn.func 30) #[] #[Value.pointer (some ⟨w2.heap.size + 1, 0, none⟩), Value.pointer (some ⟨w2.heap.size + 1 + 1, 0, none⟩)]] 1) := ⟨_, rfl⟩
        have hs2 := hq2.size
        simp only [World.size_alloc] at hs2
        have cx : W1.cell? ⟨wo.heap.size, 0, none⟩ = some (.iface t x) := by
          rw [hW1]; exact alloc_keeps (alloc_keeps (alloc_keeps (alloc_keeps (below_keeps hq2 (by simp [go_sem])) _) _) _) _
        have HL : Hid (Lain wo.heap.size (w2.heap.size + 1) t x W1) := Lib.hid ⟨cx, by rw [hW1]; exact alloc_keeps (alloc_keeps (by simp [go_sem]) _) _⟩
        have ca : W1.cell? ⟨w2.heap.size + 1 + 1, 0, none⟩ = some (.int .i64 0) := by rw [hW1]; exact alloc_keeps (by simp [go_sem]) _
        have HF : Hid (∀ j, j < 3 → W1.cell? ⟨w2.heap.size + 1 + 1 + 1, j, none⟩ = some (.func (.func (thrG j)) #[] (thrC (w2.heap.size + 1) (w2.heap.size + 1 + 1) j))) := Lib.hid (fun j hj => by
          rw [hW1]
          match j, hj with
          | 0, _ => simp [go_sem, thrG, thrC]
          | 1, _ => simp [go_sem, thrG, thrC]
          | 2, _ => simp [go_sem, thrG, thrC])
        have HK : Hid (Below W0.heap.size W0 W1) := Lib.hid (by
          rw [hW1]
          have h1 := hqk.size
          exact ((((((hqk.alloc h1 _).trans (hq2.mono (by simp; omega))).alloc (by omega) _).alloc (by simp; omega) _).alloc (by simp; omega) _).alloc (by simp; omega) _))
        rw [← hW1]
        have hsk := hqk.size
        clear hW1 cx hq2 hc hqk
        go_loopw [52] (fun i w' => ∃ j : Nat, i = .int .i64 j ∧ j ≤ 3 ∧ Below W1.heap.size W1 w') (fun i _ => 3 - (intOf i).toNat)
        case atStart => exact ⟨0, rfl, by omega, Below.refl _ _⟩
        case round =>
          obtain ⟨j, rfl, hj, hqj⟩ := hrel
          have hcx := below_keeps hqj HL.out.x
          by_cases hj3 : j < 3
          · have hjb : decide ((j : Int) < 3) = true := by simp; omega
            have hcf := below_keeps hqj (HF.out j hj3)
            have HM : Hid (∀ w', Below W1.heap.size W1 w' → Calls Try.prog 32 #[.func (.func (thrG j)) #[] (thrC (w2.heap.size + 1) (w2.heap.size + 1 + 1) j)] w' fun e w'' => e = .returned (.iface t x) ∧ Below w'.heap.size w' w'') :=
              Lib.hid (fun w' hb => thr_meets _ _ _ t hu x j w' (HL.out.keep hb))
            generalize thrG j = g at hcf HM
            generalize thrC (w2.heap.size + 1) (w2.heap.size + 1 + 1) j = cp at hcf HM
            have HJ := Lib.hid hqj
            clear hqj
            go_wp2_with fail
            go_region_held3 (fun w' => w'.cell? ⟨wo.heap.size, 0, none⟩ = some (.iface t x)) (first | go_keep | exact below_keeps hq3 hcx | exact below_keeps hq3 (by simpa using hcx))
              (first | (go_at_call 32; refine (HM.out _ (HJ.out.drew)).mono ?_; rintro e w3 ⟨rfl, hq3⟩))
            all_goals
              go_wp2_with fail
              go_roundw
              case rel => exact ⟨j + 1, by go_num, by omega, HJ.out.drew.trans (hq3.mono (show W1.heap.size ≤ wr.heap.size from HJ.out.size))⟩
              case measure => simp [intOf]; omega
          · have hjb : decide ((j : Int) < 3) = false := by simp; omega
            have hca := below_keeps hqj ca
            have hz := HK.out.trans (hqj.mono HK.out.size)
            go_wp2_with fail
            go_roundw
            case rel => exact ⟨k + 1, by go_num, by omega, hz⟩
            case measure => simp [intOf]; omega
      · have hkb : decide ((k : Int) < 4) = false := by simp; omega
        have hb := HB.out.trans (hqk.mono HB.out.size)
        go_wp2_with fail
        exact bodyPost_ret (v := .bool true) (by simp [results, Try.results8, go_sem]) rfl ⟨rfl, hb⟩
  · have hnb : decide ((500 : Int) < (s.size : Int)) = true := by simp; omega
    go_wp2_with fail
    refine (alive_any _).mono ?_
    rintro e w2 ⟨rfl, hq2⟩
    go_wp2_with fail
    exact bodyPost_ret (v := .bool true) (by simp [results, Try.results8, go_sem]) rfl ⟨rfl, hq.trans (hq2.mono hq.size)⟩
end Go.Proofs.Ytdkgjllpmfanlaa
