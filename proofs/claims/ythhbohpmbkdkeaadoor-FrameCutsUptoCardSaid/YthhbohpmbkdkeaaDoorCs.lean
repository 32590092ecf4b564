/- FrameCuts' row of five slices: a region that draws its order, by its states (printed by wip/kit/gen84.py). -/
import Derived.Test.YthhbohpmbkdkeaaDoorIv
import Derived.Deep.RegionLaw
namespace Go.Proofs.YthhbohpmbkdkeaaDoor
open Go.RowKit
set_option linter.unusedVariables false

abbrev cutsOps : Array Oper := #[{ dst := some 38, op := Op.move (Operand.tmp 5), type := 23, pos := "law.go:87", after := #[], guard := none }, { dst := some 39, op := Op.slice 23 (Operand.tmp 38) (some (Operand.const (Value.int IntKind.i64 1))) none none, type := 23, pos := "law.go:87", after := #[{ on := 0, ground := Ground.data }], guard := none }, { dst := some 40, op := Op.move (Operand.tmp 5), type := 23, pos := "law.go:87", after := #[], guard := none }, { dst := some 41, op := Op.move (Operand.tmp 5), type := 23, pos := "law.go:87", after := #[], guard := none }, { dst := some 42, op := Op.call { callee := Callee.builtin Builtin.len, args := #[Operand.tmp 41], argTypes := #[23] }, type := 3, pos := "law.go:87", after := #[{ on := 3, ground := Ground.data }], guard := none }, { dst := some 43, op := Op.binOp BinOp.sub 3 (Operand.tmp 42) (Operand.const (Value.int IntKind.i64 1)) 3, type := 3, pos := "law.go:87", after := #[{ on := 4, ground := Ground.data }], guard := none }, { dst := some 44, op := Op.slice 23 (Operand.tmp 40) none (some (Operand.tmp 43)) none, type := 23, pos := "law.go:87", after := #[{ on := 2, ground := Ground.data }, { on := 5, ground := Ground.data }], guard := none }, { dst := some 45, op := Op.move (Operand.tmp 1), type := 5, pos := "law.go:87", after := #[], guard := none }, { dst := some 46, op := Op.buildSlice 23 1 #[(0, Operand.tmp 45)], type := 23, pos := "law.go:87", after := #[{ on := 7, ground := Ground.data }], guard := none }, { dst := some 47, op := Op.move (Operand.tmp 5), type := 23, pos := "law.go:87", after := #[], guard := none }, { dst := some 48, op := Op.call { callee := Callee.builtin Builtin.append, args := #[Operand.tmp 46, Operand.tmp 47], argTypes := #[23, 23] }, type := 23, pos := "law.go:87", after := #[{ on := 8, ground := Ground.data }, { on := 9, ground := Ground.data }], guard := none }, { dst := some 49, op := Op.buildSlice 23 0 #[], type := 23, pos := "law.go:87", after := #[], guard := none }, { dst := some 50, op := Op.move (Operand.tmp 5), type := 23, pos := "law.go:87", after := #[], guard := none }, { dst := some 51, op := Op.call { callee := Callee.builtin Builtin.append, args := #[Operand.tmp 49, Operand.tmp 50], argTypes := #[23, 23] }, type := 23, pos := "law.go:87", after := #[{ on := 11, ground := Ground.data }, { on := 12, ground := Ground.data }, { on := 10, ground := Ground.chain }], guard := none }, { dst := some 52, op := Op.move (Operand.tmp 1), type := 5, pos := "law.go:87", after := #[], guard := none }, { dst := some 53, op := Op.buildSlice 23 1 #[(0, Operand.tmp 52)], type := 23, pos := "law.go:87", after := #[{ on := 14, ground := Ground.data }], guard := none }, { dst := some 54, op := Op.call { callee := Callee.builtin Builtin.append, args := #[Operand.tmp 51, Operand.tmp 53], argTypes := #[23, 23] }, type := 23, pos := "law.go:87", after := #[{ on := 13, ground := Ground.data }, { on := 15, ground := Ground.data }, { on := 13, ground := Ground.chain }], guard := none }, { dst := some 55, op := Op.buildSlice 23 0 #[], type := 23, pos := "law.go:87", after := #[], guard := none }, { dst := some 56, op := Op.move (Operand.tmp 5), type := 23, pos := "law.go:87", after := #[], guard := none }, { dst := some 57, op := Op.call { callee := Callee.builtin Builtin.append, args := #[Operand.tmp 55, Operand.tmp 56], argTypes := #[23, 23] }, type := 23, pos := "law.go:87", after := #[{ on := 17, ground := Ground.data }, { on := 18, ground := Ground.data }, { on := 16, ground := Ground.chain }], guard := none }, { dst := some 58, op := Op.move (Operand.tmp 5), type := 23, pos := "law.go:87", after := #[], guard := none }, { dst := some 59, op := Op.call { callee := Callee.builtin Builtin.append, args := #[Operand.tmp 57, Operand.tmp 58], argTypes := #[23, 23] }, type := 23, pos := "law.go:87", after := #[{ on := 19, ground := Ground.data }, { on := 20, ground := Ground.data }, { on := 19, ground := Ground.chain }], guard := none }, { dst := some 60, op := Op.buildSlice 22 5 #[(0, Operand.tmp 39), (1, Operand.tmp 44), (2, Operand.tmp 48), (3, Operand.tmp 54), (4, Operand.tmp 59)], type := 22, pos := "law.go:87", after := #[{ on := 1, ground := Ground.data }, { on := 6, ground := Ground.data }, { on := 10, ground := Ground.data }, { on := 16, ground := Ground.data }, { on := 21, ground := Ground.data }], guard := none }, { dst := some 61, op := Op.call { callee := Callee.builtin Builtin.len, args := #[Operand.tmp 60], argTypes := #[22] }, type := 3, pos := "law.go:87", after := #[{ on := 22, ground := Ground.data }], guard := none }, { dst := some 62, op := Op.move (Operand.const (Value.int IntKind.i64 0)), type := 3, pos := "law.go:87", after := #[], guard := none }]

/-- what the region leaves -/
def CutsPost (w0 : World) (pf : Option Addr) (m cf : Nat) (x : Int) (fl : List Int) (p39 p44 : Option Addr) (n39 c39 n44 c44 : Nat) (s42 s43 u0 u1 u2 u3 u4 u5 u6 u7 u8 u9 u10 u11 u12 u13 u14 u15 u16 u17 u18 u19 u20 u21 u22 u23 u24 u25 u26 u27 u28 u29 u30 u31 u32 u33 u34 u35 u36 u37 u63 u64 u65 u66 u67 u68 u69 u70 u71 u72 u73 u74 u75 u76 u77 u78 u79 : Value) (hf : ArgC w0 pf m cf fl) (hm : 0 < m) (hm2 : m ≤ 2000) (hx : 0 ≤ x ∧ x ≤ 255) : Exit → Act → World → Prop := fun e a w => e = .normal ∧ ∃ (w5 : World) (s60 v46 v48 v49 v51 v53 v54 v55 v57 v59 : Value), a = { tmps := #[u0, u1, u2, u3, u4, u5, u6, u7, u8, u9, u10, u11, u12, u13, u14, u15, u16, u17, u18, u19, u20, u21, u22, u23, u24, u25, u26, u27, u28, u29, u30, u31, u32, u33, u34, u35, u36, u37, (.slice pf m cf), (.slice p39 n39 c39), (.slice pf m cf), (.slice pf m cf), s42, s43, (.slice p44 n44 c44), (.int .u8 x), v46, (.slice pf m cf), v48, v49, (.slice pf m cf), v51, (.int .u8 x), v53, v54, v55, (.slice pf m cf), v57, (.slice pf m cf), v59, s60, (.int .i64 5), (.int .i64 0), u63, u64, u65, u66, u67, u68, u69, u70, u71, u72, u73, u74, u75, u76, u77, u78, u79], defers := [] } ∧ s60 = .slice (some ⟨w5.heap.size, 0, none⟩) 5 5 ∧ w = w5.alloc (.cells #[.slice p39 n39 c39, .slice p44 n44 c44, v48, v54, v59] 23 (0, 0)) ∧ Inv w0 w5 [(v48, (x :: fl)), (v54, (fl ++ [x])), (v53, [x]), (v59, (fl ++ fl))]

set_option maxRecDepth 100000 in
set_option maxHeartbeats 2000000 in
theorem st_5_46495355 (w0 : World) (pf : Option Addr) (m cf : Nat) (x : Int) (fl : List Int) (p39 p44 : Option Addr) (n39 c39 n44 c44 : Nat) (s42 s43 u0 u1 u2 u3 u4 u5 u6 u7 u8 u9 u10 u11 u12 u13 u14 u15 u16 u17 u18 u19 u20 u21 u22 u23 u24 u25 u26 u27 u28 u29 u30 u31 u32 u33 u34 u35 u36 u37 u63 u64 u65 u66 u67 u68 u69 u70 u71 u72 u73 u74 u75 u76 u77 u78 u79 : Value) (hf : ArgC w0 pf m cf fl) (hm : 0 < m) (hm2 : m ≤ 2000) (hx : 0 ≤ x ∧ x ≤ 255) (w : World) (v46 v48 v49 v51 v53 v54 v55 v57 v59 : Value) (h : Inv w0 w [(v48, (x :: fl)), (v54, (fl ++ [x])), (v53, [x]), (v59, (fl ++ fl))]) : wpAny Tryd.prog .any cutsOps (CutsPost w0 pf m cf x fl p39 p44 n39 c39 n44 c44 s42 s43 u0 u1 u2 u3 u4 u5 u6 u7 u8 u9 u10 u11 u12 u13 u14 u15 u16 u17 u18 u19 u20 u21 u22 u23 u24 u25 u26 u27 u28 u29 u30 u31 u32 u33 u34 u35 u36 u37 u63 u64 u65 u66 u67 u68 u69 u70 u71 u72 u73 u74 u75 u76 u77 u78 u79 hf hm hm2 hx) 2 #[true, true, true, true, true, true, true, true, true, true, true, true, true, true, true, true, true, true, true, true, true, true, false, false, true] { tmps := #[u0, u1, u2, u3, u4, u5, u6, u7, u8, u9, u10, u11, u12, u13, u14, u15, u16, u17, u18, u19, u20, u21, u22, u23, u24, u25, u26, u27, u28, u29, u30, u31, u32, u33, u34, u35, u36, u37, (.slice pf m cf), (.slice p39 n39 c39), (.slice pf m cf), (.slice pf m cf), s42, s43, (.slice p44 n44 c44), (.int .u8 x), v46, (.slice pf m cf), v48, v49, (.slice pf m cf), v51, (.int .u8 x), v53, v54, v55, (.slice pf m cf), v57, (.slice pf m cf), v59, undef, undef, (.int .i64 0), u63, u64, u65, u66, u67, u68, u69, u70, u71, u72, u73, u74, u75, u76, u77, u78, u79], defers := [] } w := by
  have hbx : ByteL [x] := by intro y hy; simp at hy; subst hy; exact hx
  obtain ⟨p48, c48, e48, _⟩ := h.arg (v := v48) (bs := x :: fl) (by simp) (by intro y hy; rcases List.mem_cons.1 hy with rfl | hy; exact hx; exact hf.byte y hy)
  obtain ⟨p54, c54, e54, _⟩ := h.arg (v := v54) (bs := fl ++ [x]) (by simp) (by intro y hy; rcases List.mem_append.1 hy with hy | hy; exact hf.byte y hy; exact hbx y hy)
  obtain ⟨p59, c59, e59, _⟩ := h.arg (v := v59) (bs := fl ++ fl) (by simp) (by intro y hy; rcases List.mem_append.1 hy with hy | hy; exact hf.byte y hy; exact hf.byte y hy)
  subst e48; subst e54; subst e59
  have HH := Lib.hid h
  clear h hbx
  refine wpAny_ready (rs := [22]) (by kernel_rfl) (by simp) ?_
  refine AllReady.cons (o := { dst := some 60, op := Op.buildSlice 22 5 #[(0, Operand.tmp 39), (1, Operand.tmp 44), (2, Operand.tmp 48), (3, Operand.tmp 54), (4, Operand.tmp 59)], type := 22, pos := "law.go:87", after := #[{ on := 1, ground := Ground.data }, { on := 6, ground := Ground.data }, { on := 10, ground := Ground.data }, { on := 16, ground := Ground.data }, { on := 21, ground := Ground.data }], guard := none }) rfl (fun K hK => ?_) AllReady.nil
  go_simp
  refine hK _ _ ?_
  clear hK K
  simp only [List.setIfInBounds_toArray, List.set_cons_zero, List.set_cons_succ]
  refine wpAny_ready (rs := [23]) (by kernel_rfl) (by simp) ?_
  refine AllReady.cons (o := { dst := some 61, op := Op.call { callee := Callee.builtin Builtin.len, args := #[Operand.tmp 60], argTypes := #[22] }, type := 3, pos := "law.go:87", after := #[{ on := 22, ground := Ground.data }], guard := none }) rfl (fun K hK => ?_) AllReady.nil
  go_simp
  refine hK _ _ ?_
  clear hK K
  simp only [List.setIfInBounds_toArray, List.set_cons_zero, List.set_cons_succ]
  exact wpAny_done (by kernel_rfl) ⟨rfl, w, _, _, _, _, _, _, _, _, _, _, rfl, rfl, rfl, by simpa using HH.out⟩ _

set_option maxRecDepth 100000 in
set_option maxHeartbeats 2000000 in
theorem st_4_46495355 (w0 : World) (pf : Option Addr) (m cf : Nat) (x : Int) (fl : List Int) (p39 p44 : Option Addr) (n39 c39 n44 c44 : Nat) (s42 s43 u0 u1 u2 u3 u4 u5 u6 u7 u8 u9 u10 u11 u12 u13 u14 u15 u16 u17 u18 u19 u20 u21 u22 u23 u24 u25 u26 u27 u28 u29 u30 u31 u32 u33 u34 u35 u36 u37 u63 u64 u65 u66 u67 u68 u69 u70 u71 u72 u73 u74 u75 u76 u77 u78 u79 : Value) (hf : ArgC w0 pf m cf fl) (hm : 0 < m) (hm2 : m ≤ 2000) (hx : 0 ≤ x ∧ x ≤ 255) (w : World) (v46 v48 v49 v51 v53 v54 v55 v57 : Value) (h : Inv w0 w [(v48, (x :: fl)), (v54, (fl ++ [x])), (v53, [x]), (v57, fl)]) : wpAny Tryd.prog .any cutsOps (CutsPost w0 pf m cf x fl p39 p44 n39 c39 n44 c44 s42 s43 u0 u1 u2 u3 u4 u5 u6 u7 u8 u9 u10 u11 u12 u13 u14 u15 u16 u17 u18 u19 u20 u21 u22 u23 u24 u25 u26 u27 u28 u29 u30 u31 u32 u33 u34 u35 u36 u37 u63 u64 u65 u66 u67 u68 u69 u70 u71 u72 u73 u74 u75 u76 u77 u78 u79 hf hm hm2 hx) 3 #[true, true, true, true, true, true, true, true, true, true, true, true, true, true, true, true, true, true, true, true, true, false, false, false, true] { tmps := #[u0, u1, u2, u3, u4, u5, u6, u7, u8, u9, u10, u11, u12, u13, u14, u15, u16, u17, u18, u19, u20, u21, u22, u23, u24, u25, u26, u27, u28, u29, u30, u31, u32, u33, u34, u35, u36, u37, (.slice pf m cf), (.slice p39 n39 c39), (.slice pf m cf), (.slice pf m cf), s42, s43, (.slice p44 n44 c44), (.int .u8 x), v46, (.slice pf m cf), v48, v49, (.slice pf m cf), v51, (.int .u8 x), v53, v54, v55, (.slice pf m cf), v57, (.slice pf m cf), undef, undef, undef, (.int .i64 0), u63, u64, u65, u66, u67, u68, u69, u70, u71, u72, u73, u74, u75, u76, u77, u78, u79], defers := [] } w := by
  refine wpAny_ready (rs := [21]) (by kernel_rfl) (by simp) ?_
  refine AllReady.cons (o := { dst := some 59, op := Op.call { callee := Callee.builtin Builtin.append, args := #[Operand.tmp 57, Operand.tmp 58], argTypes := #[23, 23] }, type := 23, pos := "law.go:87", after := #[{ on := 19, ground := Ground.data }, { on := 20, ground := Ground.data }, { on := 19, ground := Ground.chain }], guard := none }) rfl (fun K hK => ?_) ?_
  · have h' : Inv w0 w [(v57, fl), (v48, (x :: fl)), (v54, (fl ++ [x])), (v53, [x])] := h.perm (List.perm_middle (l₁ := [(v48, (x :: fl)), (v54, (fl ++ [x])), (v53, [x])]) (l₂ := []))
    refine step_app h' rfl _ _ rfl rfl pf m cf fl rfl (hf.below h.grew) hm (by have := hf.len; simp; omega) ?_
    intro v59 w' h2
    refine hK _ _ ?_
    clear hK K
    (try simp only [Act.put, List.setIfInBounds_toArray, List.set_cons_zero, List.set_cons_succ])
    exact st_5_46495355 w0 pf m cf x fl p39 p44 n39 c39 n44 c44 s42 s43 u0 u1 u2 u3 u4 u5 u6 u7 u8 u9 u10 u11 u12 u13 u14 u15 u16 u17 u18 u19 u20 u21 u22 u23 u24 u25 u26 u27 u28 u29 u30 u31 u32 u33 u34 u35 u36 u37 u63 u64 u65 u66 u67 u68 u69 u70 u71 u72 u73 u74 u75 u76 u77 u78 u79 hf hm hm2 hx w' v46 v48 v49 v51 v53 v54 v55 v57 v59 (h2.perm (List.perm_middle (l₁ := [(v48, (x :: fl)), (v54, (fl ++ [x])), (v53, [x])]) (l₂ := [])).symm)
  exact AllReady.nil

set_option maxRecDepth 100000 in
set_option maxHeartbeats 2000000 in
theorem st_3_46495355 (w0 : World) (pf : Option Addr) (m cf : Nat) (x : Int) (fl : List Int) (p39 p44 : Option Addr) (n39 c39 n44 c44 : Nat) (s42 s43 u0 u1 u2 u3 u4 u5 u6 u7 u8 u9 u10 u11 u12 u13 u14 u15 u16 u17 u18 u19 u20 u21 u22 u23 u24 u25 u26 u27 u28 u29 u30 u31 u32 u33 u34 u35 u36 u37 u63 u64 u65 u66 u67 u68 u69 u70 u71 u72 u73 u74 u75 u76 u77 u78 u79 : Value) (hf : ArgC w0 pf m cf fl) (hm : 0 < m) (hm2 : m ≤ 2000) (hx : 0 ≤ x ∧ x ≤ 255) (w : World) (v46 v48 v49 v51 v53 v54 v55 : Value) (h : Inv w0 w [(v48, (x :: fl)), (v54, (fl ++ [x])), (v53, [x]), (v55, [])]) : wpAny Tryd.prog .any cutsOps (CutsPost w0 pf m cf x fl p39 p44 n39 c39 n44 c44 s42 s43 u0 u1 u2 u3 u4 u5 u6 u7 u8 u9 u10 u11 u12 u13 u14 u15 u16 u17 u18 u19 u20 u21 u22 u23 u24 u25 u26 u27 u28 u29 u30 u31 u32 u33 u34 u35 u36 u37 u63 u64 u65 u66 u67 u68 u69 u70 u71 u72 u73 u74 u75 u76 u77 u78 u79 hf hm hm2 hx) 4 #[true, true, true, true, true, true, true, true, true, true, true, true, true, true, true, true, true, true, true, false, true, false, false, false, true] { tmps := #[u0, u1, u2, u3, u4, u5, u6, u7, u8, u9, u10, u11, u12, u13, u14, u15, u16, u17, u18, u19, u20, u21, u22, u23, u24, u25, u26, u27, u28, u29, u30, u31, u32, u33, u34, u35, u36, u37, (.slice pf m cf), (.slice p39 n39 c39), (.slice pf m cf), (.slice pf m cf), s42, s43, (.slice p44 n44 c44), (.int .u8 x), v46, (.slice pf m cf), v48, v49, (.slice pf m cf), v51, (.int .u8 x), v53, v54, v55, (.slice pf m cf), undef, (.slice pf m cf), undef, undef, undef, (.int .i64 0), u63, u64, u65, u66, u67, u68, u69, u70, u71, u72, u73, u74, u75, u76, u77, u78, u79], defers := [] } w := by
  refine wpAny_ready (rs := [19]) (by kernel_rfl) (by simp) ?_
  refine AllReady.cons (o := { dst := some 57, op := Op.call { callee := Callee.builtin Builtin.append, args := #[Operand.tmp 55, Operand.tmp 56], argTypes := #[23, 23] }, type := 23, pos := "law.go:87", after := #[{ on := 17, ground := Ground.data }, { on := 18, ground := Ground.data }, { on := 16, ground := Ground.chain }], guard := none }) rfl (fun K hK => ?_) ?_
  · have h' : Inv w0 w [(v55, []), (v48, (x :: fl)), (v54, (fl ++ [x])), (v53, [x])] := h.perm (List.perm_middle (l₁ := [(v48, (x :: fl)), (v54, (fl ++ [x])), (v53, [x])]) (l₂ := []))
    refine step_app h' rfl _ _ rfl rfl pf m cf fl rfl (hf.below h.grew) hm (by have := hf.len; simp; omega) ?_
    intro v57 w' h2
    refine hK _ _ ?_
    clear hK K
    (try simp only [Act.put, List.setIfInBounds_toArray, List.set_cons_zero, List.set_cons_succ])
    exact st_4_46495355 w0 pf m cf x fl p39 p44 n39 c39 n44 c44 s42 s43 u0 u1 u2 u3 u4 u5 u6 u7 u8 u9 u10 u11 u12 u13 u14 u15 u16 u17 u18 u19 u20 u21 u22 u23 u24 u25 u26 u27 u28 u29 u30 u31 u32 u33 u34 u35 u36 u37 u63 u64 u65 u66 u67 u68 u69 u70 u71 u72 u73 u74 u75 u76 u77 u78 u79 hf hm hm2 hx w' v46 v48 v49 v51 v53 v54 v55 v57 (h2.perm (List.perm_middle (l₁ := [(v48, (x :: fl)), (v54, (fl ++ [x])), (v53, [x])]) (l₂ := [])).symm)
  exact AllReady.nil

set_option maxRecDepth 100000 in
set_option maxHeartbeats 2000000 in
theorem st_3_464953 (w0 : World) (pf : Option Addr) (m cf : Nat) (x : Int) (fl : List Int) (p39 p44 : Option Addr) (n39 c39 n44 c44 : Nat) (s42 s43 u0 u1 u2 u3 u4 u5 u6 u7 u8 u9 u10 u11 u12 u13 u14 u15 u16 u17 u18 u19 u20 u21 u22 u23 u24 u25 u26 u27 u28 u29 u30 u31 u32 u33 u34 u35 u36 u37 u63 u64 u65 u66 u67 u68 u69 u70 u71 u72 u73 u74 u75 u76 u77 u78 u79 : Value) (hf : ArgC w0 pf m cf fl) (hm : 0 < m) (hm2 : m ≤ 2000) (hx : 0 ≤ x ∧ x ≤ 255) (w : World) (v46 v48 v49 v51 v53 v54 : Value) (h : Inv w0 w [(v48, (x :: fl)), (v54, (fl ++ [x])), (v53, [x])]) : wpAny Tryd.prog .any cutsOps (CutsPost w0 pf m cf x fl p39 p44 n39 c39 n44 c44 s42 s43 u0 u1 u2 u3 u4 u5 u6 u7 u8 u9 u10 u11 u12 u13 u14 u15 u16 u17 u18 u19 u20 u21 u22 u23 u24 u25 u26 u27 u28 u29 u30 u31 u32 u33 u34 u35 u36 u37 u63 u64 u65 u66 u67 u68 u69 u70 u71 u72 u73 u74 u75 u76 u77 u78 u79 hf hm hm2 hx) 5 #[true, true, true, true, true, true, true, true, true, true, true, true, true, true, true, true, true, false, true, false, true, false, false, false, true] { tmps := #[u0, u1, u2, u3, u4, u5, u6, u7, u8, u9, u10, u11, u12, u13, u14, u15, u16, u17, u18, u19, u20, u21, u22, u23, u24, u25, u26, u27, u28, u29, u30, u31, u32, u33, u34, u35, u36, u37, (.slice pf m cf), (.slice p39 n39 c39), (.slice pf m cf), (.slice pf m cf), s42, s43, (.slice p44 n44 c44), (.int .u8 x), v46, (.slice pf m cf), v48, v49, (.slice pf m cf), v51, (.int .u8 x), v53, v54, undef, (.slice pf m cf), undef, (.slice pf m cf), undef, undef, undef, (.int .i64 0), u63, u64, u65, u66, u67, u68, u69, u70, u71, u72, u73, u74, u75, u76, u77, u78, u79], defers := [] } w := by
  refine wpAny_ready (rs := [17]) (by kernel_rfl) (by simp) ?_
  refine AllReady.cons (o := { dst := some 55, op := Op.buildSlice 23 0 #[], type := 23, pos := "law.go:87", after := #[], guard := none }) rfl (fun K hK => ?_) ?_
  · go_simp
    refine hK _ _ ?_
    clear hK K
    (try simp only [List.setIfInBounds_toArray, List.set_cons_zero, List.set_cons_succ])
    exact st_3_46495355 w0 pf m cf x fl p39 p44 n39 c39 n44 c44 s42 s43 u0 u1 u2 u3 u4 u5 u6 u7 u8 u9 u10 u11 u12 u13 u14 u15 u16 u17 u18 u19 u20 u21 u22 u23 u24 u25 u26 u27 u28 u29 u30 u31 u32 u33 u34 u35 u36 u37 u63 u64 u65 u66 u67 u68 u69 u70 u71 u72 u73 u74 u75 u76 u77 u78 u79 hf hm hm2 hx _ v46 v48 v49 v51 v53 v54 (.slice (some ⟨w.heap.size, 0, none⟩) 0 0) ((h.new [] (by simp)).perm (List.perm_middle (l₁ := [(v48, (x :: fl)), (v54, (fl ++ [x])), (v53, [x])]) (l₂ := [])).symm)
  exact AllReady.nil

set_option maxRecDepth 100000 in
set_option maxHeartbeats 2000000 in
theorem st_2_46495355 (w0 : World) (pf : Option Addr) (m cf : Nat) (x : Int) (fl : List Int) (p39 p44 : Option Addr) (n39 c39 n44 c44 : Nat) (s42 s43 u0 u1 u2 u3 u4 u5 u6 u7 u8 u9 u10 u11 u12 u13 u14 u15 u16 u17 u18 u19 u20 u21 u22 u23 u24 u25 u26 u27 u28 u29 u30 u31 u32 u33 u34 u35 u36 u37 u63 u64 u65 u66 u67 u68 u69 u70 u71 u72 u73 u74 u75 u76 u77 u78 u79 : Value) (hf : ArgC w0 pf m cf fl) (hm : 0 < m) (hm2 : m ≤ 2000) (hx : 0 ≤ x ∧ x ≤ 255) (w : World) (v46 v48 v49 v51 v53 v55 : Value) (h : Inv w0 w [(v48, (x :: fl)), (v51, fl), (v53, [x]), (v55, [])]) : wpAny Tryd.prog .any cutsOps (CutsPost w0 pf m cf x fl p39 p44 n39 c39 n44 c44 s42 s43 u0 u1 u2 u3 u4 u5 u6 u7 u8 u9 u10 u11 u12 u13 u14 u15 u16 u17 u18 u19 u20 u21 u22 u23 u24 u25 u26 u27 u28 u29 u30 u31 u32 u33 u34 u35 u36 u37 u63 u64 u65 u66 u67 u68 u69 u70 u71 u72 u73 u74 u75 u76 u77 u78 u79 hf hm hm2 hx) 5 #[true, true, true, true, true, true, true, true, true, true, true, true, true, true, true, true, false, true, true, false, true, false, false, false, true] { tmps := #[u0, u1, u2, u3, u4, u5, u6, u7, u8, u9, u10, u11, u12, u13, u14, u15, u16, u17, u18, u19, u20, u21, u22, u23, u24, u25, u26, u27, u28, u29, u30, u31, u32, u33, u34, u35, u36, u37, (.slice pf m cf), (.slice p39 n39 c39), (.slice pf m cf), (.slice pf m cf), s42, s43, (.slice p44 n44 c44), (.int .u8 x), v46, (.slice pf m cf), v48, v49, (.slice pf m cf), v51, (.int .u8 x), v53, undef, v55, (.slice pf m cf), undef, (.slice pf m cf), undef, undef, undef, (.int .i64 0), u63, u64, u65, u66, u67, u68, u69, u70, u71, u72, u73, u74, u75, u76, u77, u78, u79], defers := [] } w := by
  refine wpAny_ready (rs := [16]) (by kernel_rfl) (by simp) ?_
  refine AllReady.cons (o := { dst := some 54, op := Op.call { callee := Callee.builtin Builtin.append, args := #[Operand.tmp 51, Operand.tmp 53], argTypes := #[23, 23] }, type := 23, pos := "law.go:87", after := #[{ on := 13, ground := Ground.data }, { on := 15, ground := Ground.data }, { on := 13, ground := Ground.chain }], guard := none }) rfl (fun K hK => ?_) ?_
  · have h' : Inv w0 w [(v51, fl), (v48, (x :: fl)), (v53, [x]), (v55, [])] := h.perm (List.perm_middle (l₁ := [(v48, (x :: fl))]) (l₂ := [(v53, [x]), (v55, [])]))
    obtain ⟨p53, c53, e53, ha53⟩ := h'.arg (v := v53) (bs := [x]) (by simp) (by intro y hy; simp at hy; subst hy; exact hx)
    subst e53
    refine step_app h' rfl _ _ rfl rfl p53 _ c53 [x] rfl ha53 (by simp) (by have := hf.len; simp; omega) ?_
    intro v54 w' h2
    refine hK _ _ ?_
    clear hK K
    (try simp only [Act.put, List.setIfInBounds_toArray, List.set_cons_zero, List.set_cons_succ])
    exact st_3_46495355 w0 pf m cf x fl p39 p44 n39 c39 n44 c44 s42 s43 u0 u1 u2 u3 u4 u5 u6 u7 u8 u9 u10 u11 u12 u13 u14 u15 u16 u17 u18 u19 u20 u21 u22 u23 u24 u25 u26 u27 u28 u29 u30 u31 u32 u33 u34 u35 u36 u37 u63 u64 u65 u66 u67 u68 u69 u70 u71 u72 u73 u74 u75 u76 u77 u78 u79 hf hm hm2 hx w' v46 v48 v49 v51 (.slice p53 1 c53) v54 v55 (h2.perm (List.perm_middle (l₁ := [(v48, (x :: fl))]) (l₂ := [((.slice p53 1 c53), [x]), (v55, [])])).symm)
  exact AllReady.nil

set_option maxRecDepth 100000 in
set_option maxHeartbeats 2000000 in
theorem st_2_464953 (w0 : World) (pf : Option Addr) (m cf : Nat) (x : Int) (fl : List Int) (p39 p44 : Option Addr) (n39 c39 n44 c44 : Nat) (s42 s43 u0 u1 u2 u3 u4 u5 u6 u7 u8 u9 u10 u11 u12 u13 u14 u15 u16 u17 u18 u19 u20 u21 u22 u23 u24 u25 u26 u27 u28 u29 u30 u31 u32 u33 u34 u35 u36 u37 u63 u64 u65 u66 u67 u68 u69 u70 u71 u72 u73 u74 u75 u76 u77 u78 u79 : Value) (hf : ArgC w0 pf m cf fl) (hm : 0 < m) (hm2 : m ≤ 2000) (hx : 0 ≤ x ∧ x ≤ 255) (w : World) (v46 v48 v49 v51 v53 : Value) (h : Inv w0 w [(v48, (x :: fl)), (v51, fl), (v53, [x])]) : wpAny Tryd.prog .any cutsOps (CutsPost w0 pf m cf x fl p39 p44 n39 c39 n44 c44 s42 s43 u0 u1 u2 u3 u4 u5 u6 u7 u8 u9 u10 u11 u12 u13 u14 u15 u16 u17 u18 u19 u20 u21 u22 u23 u24 u25 u26 u27 u28 u29 u30 u31 u32 u33 u34 u35 u36 u37 u63 u64 u65 u66 u67 u68 u69 u70 u71 u72 u73 u74 u75 u76 u77 u78 u79 hf hm hm2 hx) 6 #[true, true, true, true, true, true, true, true, true, true, true, true, true, true, true, true, false, false, true, false, true, false, false, false, true] { tmps := #[u0, u1, u2, u3, u4, u5, u6, u7, u8, u9, u10, u11, u12, u13, u14, u15, u16, u17, u18, u19, u20, u21, u22, u23, u24, u25, u26, u27, u28, u29, u30, u31, u32, u33, u34, u35, u36, u37, (.slice pf m cf), (.slice p39 n39 c39), (.slice pf m cf), (.slice pf m cf), s42, s43, (.slice p44 n44 c44), (.int .u8 x), v46, (.slice pf m cf), v48, v49, (.slice pf m cf), v51, (.int .u8 x), v53, undef, undef, (.slice pf m cf), undef, (.slice pf m cf), undef, undef, undef, (.int .i64 0), u63, u64, u65, u66, u67, u68, u69, u70, u71, u72, u73, u74, u75, u76, u77, u78, u79], defers := [] } w := by
  refine wpAny_ready (rs := [16, 17]) (by kernel_rfl) (by simp) ?_
  refine AllReady.cons (o := { dst := some 54, op := Op.call { callee := Callee.builtin Builtin.append, args := #[Operand.tmp 51, Operand.tmp 53], argTypes := #[23, 23] }, type := 23, pos := "law.go:87", after := #[{ on := 13, ground := Ground.data }, { on := 15, ground := Ground.data }, { on := 13, ground := Ground.chain }], guard := none }) rfl (fun K hK => ?_) ?_
  · have h' : Inv w0 w [(v51, fl), (v48, (x :: fl)), (v53, [x])] := h.perm (List.perm_middle (l₁ := [(v48, (x :: fl))]) (l₂ := [(v53, [x])]))
    obtain ⟨p53, c53, e53, ha53⟩ := h'.arg (v := v53) (bs := [x]) (by simp) (by intro y hy; simp at hy; subst hy; exact hx)
    subst e53
    refine step_app h' rfl _ _ rfl rfl p53 _ c53 [x] rfl ha53 (by simp) (by have := hf.len; simp; omega) ?_
    intro v54 w' h2
    refine hK _ _ ?_
    clear hK K
    (try simp only [Act.put, List.setIfInBounds_toArray, List.set_cons_zero, List.set_cons_succ])
    exact st_3_464953 w0 pf m cf x fl p39 p44 n39 c39 n44 c44 s42 s43 u0 u1 u2 u3 u4 u5 u6 u7 u8 u9 u10 u11 u12 u13 u14 u15 u16 u17 u18 u19 u20 u21 u22 u23 u24 u25 u26 u27 u28 u29 u30 u31 u32 u33 u34 u35 u36 u37 u63 u64 u65 u66 u67 u68 u69 u70 u71 u72 u73 u74 u75 u76 u77 u78 u79 hf hm hm2 hx w' v46 v48 v49 v51 (.slice p53 1 c53) v54 (h2.perm (List.perm_middle (l₁ := [(v48, (x :: fl))]) (l₂ := [((.slice p53 1 c53), [x])])).symm)
  refine AllReady.cons (o := { dst := some 55, op := Op.buildSlice 23 0 #[], type := 23, pos := "law.go:87", after := #[], guard := none }) rfl (fun K hK => ?_) ?_
  · go_simp
    refine hK _ _ ?_
    clear hK K
    (try simp only [List.setIfInBounds_toArray, List.set_cons_zero, List.set_cons_succ])
    exact st_2_46495355 w0 pf m cf x fl p39 p44 n39 c39 n44 c44 s42 s43 u0 u1 u2 u3 u4 u5 u6 u7 u8 u9 u10 u11 u12 u13 u14 u15 u16 u17 u18 u19 u20 u21 u22 u23 u24 u25 u26 u27 u28 u29 u30 u31 u32 u33 u34 u35 u36 u37 u63 u64 u65 u66 u67 u68 u69 u70 u71 u72 u73 u74 u75 u76 u77 u78 u79 hf hm hm2 hx _ v46 v48 v49 v51 v53 (.slice (some ⟨w.heap.size, 0, none⟩) 0 0) ((h.new [] (by simp)).perm (List.perm_middle (l₁ := [(v48, (x :: fl)), (v51, fl), (v53, [x])]) (l₂ := [])).symm)
  exact AllReady.nil

set_option maxRecDepth 100000 in
set_option maxHeartbeats 2000000 in
theorem st_2_464955 (w0 : World) (pf : Option Addr) (m cf : Nat) (x : Int) (fl : List Int) (p39 p44 : Option Addr) (n39 c39 n44 c44 : Nat) (s42 s43 u0 u1 u2 u3 u4 u5 u6 u7 u8 u9 u10 u11 u12 u13 u14 u15 u16 u17 u18 u19 u20 u21 u22 u23 u24 u25 u26 u27 u28 u29 u30 u31 u32 u33 u34 u35 u36 u37 u63 u64 u65 u66 u67 u68 u69 u70 u71 u72 u73 u74 u75 u76 u77 u78 u79 : Value) (hf : ArgC w0 pf m cf fl) (hm : 0 < m) (hm2 : m ≤ 2000) (hx : 0 ≤ x ∧ x ≤ 255) (w : World) (v46 v48 v49 v51 v55 : Value) (h : Inv w0 w [(v48, (x :: fl)), (v51, fl), (v55, [])]) : wpAny Tryd.prog .any cutsOps (CutsPost w0 pf m cf x fl p39 p44 n39 c39 n44 c44 s42 s43 u0 u1 u2 u3 u4 u5 u6 u7 u8 u9 u10 u11 u12 u13 u14 u15 u16 u17 u18 u19 u20 u21 u22 u23 u24 u25 u26 u27 u28 u29 u30 u31 u32 u33 u34 u35 u36 u37 u63 u64 u65 u66 u67 u68 u69 u70 u71 u72 u73 u74 u75 u76 u77 u78 u79 hf hm hm2 hx) 6 #[true, true, true, true, true, true, true, true, true, true, true, true, true, true, true, false, false, true, true, false, true, false, false, false, true] { tmps := #[u0, u1, u2, u3, u4, u5, u6, u7, u8, u9, u10, u11, u12, u13, u14, u15, u16, u17, u18, u19, u20, u21, u22, u23, u24, u25, u26, u27, u28, u29, u30, u31, u32, u33, u34, u35, u36, u37, (.slice pf m cf), (.slice p39 n39 c39), (.slice pf m cf), (.slice pf m cf), s42, s43, (.slice p44 n44 c44), (.int .u8 x), v46, (.slice pf m cf), v48, v49, (.slice pf m cf), v51, (.int .u8 x), undef, undef, v55, (.slice pf m cf), undef, (.slice pf m cf), undef, undef, undef, (.int .i64 0), u63, u64, u65, u66, u67, u68, u69, u70, u71, u72, u73, u74, u75, u76, u77, u78, u79], defers := [] } w := by
  refine wpAny_ready (rs := [15]) (by kernel_rfl) (by simp) ?_
  refine AllReady.cons (o := { dst := some 53, op := Op.buildSlice 23 1 #[(0, Operand.tmp 52)], type := 23, pos := "law.go:87", after := #[{ on := 14, ground := Ground.data }], guard := none }) rfl (fun K hK => ?_) ?_
  · go_simp
    refine hK _ _ ?_
    clear hK K
    (try simp only [List.setIfInBounds_toArray, List.set_cons_zero, List.set_cons_succ])
    exact st_2_46495355 w0 pf m cf x fl p39 p44 n39 c39 n44 c44 s42 s43 u0 u1 u2 u3 u4 u5 u6 u7 u8 u9 u10 u11 u12 u13 u14 u15 u16 u17 u18 u19 u20 u21 u22 u23 u24 u25 u26 u27 u28 u29 u30 u31 u32 u33 u34 u35 u36 u37 u63 u64 u65 u66 u67 u68 u69 u70 u71 u72 u73 u74 u75 u76 u77 u78 u79 hf hm hm2 hx _ v46 v48 v49 v51 (.slice (some ⟨w.heap.size, 0, none⟩) 1 1) v55 ((h.new [x] (by simp)).perm (List.perm_middle (l₁ := [(v48, (x :: fl)), (v51, fl)]) (l₂ := [(v55, [])])).symm)
  exact AllReady.nil

set_option maxRecDepth 100000 in
set_option maxHeartbeats 2000000 in
theorem st_2_4649 (w0 : World) (pf : Option Addr) (m cf : Nat) (x : Int) (fl : List Int) (p39 p44 : Option Addr) (n39 c39 n44 c44 : Nat) (s42 s43 u0 u1 u2 u3 u4 u5 u6 u7 u8 u9 u10 u11 u12 u13 u14 u15 u16 u17 u18 u19 u20 u21 u22 u23 u24 u25 u26 u27 u28 u29 u30 u31 u32 u33 u34 u35 u36 u37 u63 u64 u65 u66 u67 u68 u69 u70 u71 u72 u73 u74 u75 u76 u77 u78 u79 : Value) (hf : ArgC w0 pf m cf fl) (hm : 0 < m) (hm2 : m ≤ 2000) (hx : 0 ≤ x ∧ x ≤ 255) (w : World) (v46 v48 v49 v51 : Value) (h : Inv w0 w [(v48, (x :: fl)), (v51, fl)]) : wpAny Tryd.prog .any cutsOps (CutsPost w0 pf m cf x fl p39 p44 n39 c39 n44 c44 s42 s43 u0 u1 u2 u3 u4 u5 u6 u7 u8 u9 u10 u11 u12 u13 u14 u15 u16 u17 u18 u19 u20 u21 u22 u23 u24 u25 u26 u27 u28 u29 u30 u31 u32 u33 u34 u35 u36 u37 u63 u64 u65 u66 u67 u68 u69 u70 u71 u72 u73 u74 u75 u76 u77 u78 u79 hf hm hm2 hx) 7 #[true, true, true, true, true, true, true, true, true, true, true, true, true, true, true, false, false, false, true, false, true, false, false, false, true] { tmps := #[u0, u1, u2, u3, u4, u5, u6, u7, u8, u9, u10, u11, u12, u13, u14, u15, u16, u17, u18, u19, u20, u21, u22, u23, u24, u25, u26, u27, u28, u29, u30, u31, u32, u33, u34, u35, u36, u37, (.slice pf m cf), (.slice p39 n39 c39), (.slice pf m cf), (.slice pf m cf), s42, s43, (.slice p44 n44 c44), (.int .u8 x), v46, (.slice pf m cf), v48, v49, (.slice pf m cf), v51, (.int .u8 x), undef, undef, undef, (.slice pf m cf), undef, (.slice pf m cf), undef, undef, undef, (.int .i64 0), u63, u64, u65, u66, u67, u68, u69, u70, u71, u72, u73, u74, u75, u76, u77, u78, u79], defers := [] } w := by
  refine wpAny_ready (rs := [15, 17]) (by kernel_rfl) (by simp) ?_
  refine AllReady.cons (o := { dst := some 53, op := Op.buildSlice 23 1 #[(0, Operand.tmp 52)], type := 23, pos := "law.go:87", after := #[{ on := 14, ground := Ground.data }], guard := none }) rfl (fun K hK => ?_) ?_
  · go_simp
    refine hK _ _ ?_
    clear hK K
    (try simp only [List.setIfInBounds_toArray, List.set_cons_zero, List.set_cons_succ])
    exact st_2_464953 w0 pf m cf x fl p39 p44 n39 c39 n44 c44 s42 s43 u0 u1 u2 u3 u4 u5 u6 u7 u8 u9 u10 u11 u12 u13 u14 u15 u16 u17 u18 u19 u20 u21 u22 u23 u24 u25 u26 u27 u28 u29 u30 u31 u32 u33 u34 u35 u36 u37 u63 u64 u65 u66 u67 u68 u69 u70 u71 u72 u73 u74 u75 u76 u77 u78 u79 hf hm hm2 hx _ v46 v48 v49 v51 (.slice (some ⟨w.heap.size, 0, none⟩) 1 1) ((h.new [x] (by simp)).perm (List.perm_middle (l₁ := [(v48, (x :: fl)), (v51, fl)]) (l₂ := [])).symm)
  refine AllReady.cons (o := { dst := some 55, op := Op.buildSlice 23 0 #[], type := 23, pos := "law.go:87", after := #[], guard := none }) rfl (fun K hK => ?_) ?_
  · go_simp
    refine hK _ _ ?_
    clear hK K
    (try simp only [List.setIfInBounds_toArray, List.set_cons_zero, List.set_cons_succ])
    exact st_2_464955 w0 pf m cf x fl p39 p44 n39 c39 n44 c44 s42 s43 u0 u1 u2 u3 u4 u5 u6 u7 u8 u9 u10 u11 u12 u13 u14 u15 u16 u17 u18 u19 u20 u21 u22 u23 u24 u25 u26 u27 u28 u29 u30 u31 u32 u33 u34 u35 u36 u37 u63 u64 u65 u66 u67 u68 u69 u70 u71 u72 u73 u74 u75 u76 u77 u78 u79 hf hm hm2 hx _ v46 v48 v49 v51 (.slice (some ⟨w.heap.size, 0, none⟩) 0 0) ((h.new [] (by simp)).perm (List.perm_middle (l₁ := [(v48, (x :: fl)), (v51, fl)]) (l₂ := [])).symm)
  exact AllReady.nil

set_option maxRecDepth 100000 in
set_option maxHeartbeats 2000000 in
theorem st_1_46495355 (w0 : World) (pf : Option Addr) (m cf : Nat) (x : Int) (fl : List Int) (p39 p44 : Option Addr) (n39 c39 n44 c44 : Nat) (s42 s43 u0 u1 u2 u3 u4 u5 u6 u7 u8 u9 u10 u11 u12 u13 u14 u15 u16 u17 u18 u19 u20 u21 u22 u23 u24 u25 u26 u27 u28 u29 u30 u31 u32 u33 u34 u35 u36 u37 u63 u64 u65 u66 u67 u68 u69 u70 u71 u72 u73 u74 u75 u76 u77 u78 u79 : Value) (hf : ArgC w0 pf m cf fl) (hm : 0 < m) (hm2 : m ≤ 2000) (hx : 0 ≤ x ∧ x ≤ 255) (w : World) (v46 v48 v49 v53 v55 : Value) (h : Inv w0 w [(v48, (x :: fl)), (v49, []), (v53, [x]), (v55, [])]) : wpAny Tryd.prog .any cutsOps (CutsPost w0 pf m cf x fl p39 p44 n39 c39 n44 c44 s42 s43 u0 u1 u2 u3 u4 u5 u6 u7 u8 u9 u10 u11 u12 u13 u14 u15 u16 u17 u18 u19 u20 u21 u22 u23 u24 u25 u26 u27 u28 u29 u30 u31 u32 u33 u34 u35 u36 u37 u63 u64 u65 u66 u67 u68 u69 u70 u71 u72 u73 u74 u75 u76 u77 u78 u79 hf hm hm2 hx) 6 #[true, true, true, true, true, true, true, true, true, true, true, true, true, false, true, true, false, true, true, false, true, false, false, false, true] { tmps := #[u0, u1, u2, u3, u4, u5, u6, u7, u8, u9, u10, u11, u12, u13, u14, u15, u16, u17, u18, u19, u20, u21, u22, u23, u24, u25, u26, u27, u28, u29, u30, u31, u32, u33, u34, u35, u36, u37, (.slice pf m cf), (.slice p39 n39 c39), (.slice pf m cf), (.slice pf m cf), s42, s43, (.slice p44 n44 c44), (.int .u8 x), v46, (.slice pf m cf), v48, v49, (.slice pf m cf), undef, (.int .u8 x), v53, undef, v55, (.slice pf m cf), undef, (.slice pf m cf), undef, undef, undef, (.int .i64 0), u63, u64, u65, u66, u67, u68, u69, u70, u71, u72, u73, u74, u75, u76, u77, u78, u79], defers := [] } w := by
  refine wpAny_ready (rs := [13]) (by kernel_rfl) (by simp) ?_
  refine AllReady.cons (o := { dst := some 51, op := Op.call { callee := Callee.builtin Builtin.append, args := #[Operand.tmp 49, Operand.tmp 50], argTypes := #[23, 23] }, type := 23, pos := "law.go:87", after := #[{ on := 11, ground := Ground.data }, { on := 12, ground := Ground.data }, { on := 10, ground := Ground.chain }], guard := none }) rfl (fun K hK => ?_) ?_
  · have h' : Inv w0 w [(v49, []), (v48, (x :: fl)), (v53, [x]), (v55, [])] := h.perm (List.perm_middle (l₁ := [(v48, (x :: fl))]) (l₂ := [(v53, [x]), (v55, [])]))
    refine step_app h' rfl _ _ rfl rfl pf m cf fl rfl (hf.below h.grew) hm (by have := hf.len; simp; omega) ?_
    intro v51 w' h2
    refine hK _ _ ?_
    clear hK K
    (try simp only [Act.put, List.setIfInBounds_toArray, List.set_cons_zero, List.set_cons_succ])
    exact st_2_46495355 w0 pf m cf x fl p39 p44 n39 c39 n44 c44 s42 s43 u0 u1 u2 u3 u4 u5 u6 u7 u8 u9 u10 u11 u12 u13 u14 u15 u16 u17 u18 u19 u20 u21 u22 u23 u24 u25 u26 u27 u28 u29 u30 u31 u32 u33 u34 u35 u36 u37 u63 u64 u65 u66 u67 u68 u69 u70 u71 u72 u73 u74 u75 u76 u77 u78 u79 hf hm hm2 hx w' v46 v48 v49 v51 v53 v55 (h2.perm (List.perm_middle (l₁ := [(v48, (x :: fl))]) (l₂ := [(v53, [x]), (v55, [])])).symm)
  exact AllReady.nil

set_option maxRecDepth 100000 in
set_option maxHeartbeats 2000000 in
theorem st_1_464953 (w0 : World) (pf : Option Addr) (m cf : Nat) (x : Int) (fl : List Int) (p39 p44 : Option Addr) (n39 c39 n44 c44 : Nat) (s42 s43 u0 u1 u2 u3 u4 u5 u6 u7 u8 u9 u10 u11 u12 u13 u14 u15 u16 u17 u18 u19 u20 u21 u22 u23 u24 u25 u26 u27 u28 u29 u30 u31 u32 u33 u34 u35 u36 u37 u63 u64 u65 u66 u67 u68 u69 u70 u71 u72 u73 u74 u75 u76 u77 u78 u79 : Value) (hf : ArgC w0 pf m cf fl) (hm : 0 < m) (hm2 : m ≤ 2000) (hx : 0 ≤ x ∧ x ≤ 255) (w : World) (v46 v48 v49 v53 : Value) (h : Inv w0 w [(v48, (x :: fl)), (v49, []), (v53, [x])]) : wpAny Tryd.prog .any cutsOps (CutsPost w0 pf m cf x fl p39 p44 n39 c39 n44 c44 s42 s43 u0 u1 u2 u3 u4 u5 u6 u7 u8 u9 u10 u11 u12 u13 u14 u15 u16 u17 u18 u19 u20 u21 u22 u23 u24 u25 u26 u27 u28 u29 u30 u31 u32 u33 u34 u35 u36 u37 u63 u64 u65 u66 u67 u68 u69 u70 u71 u72 u73 u74 u75 u76 u77 u78 u79 hf hm hm2 hx) 7 #[true, true, true, true, true, true, true, true, true, true, true, true, true, false, true, true, false, false, true, false, true, false, false, false, true] { tmps := #[u0, u1, u2, u3, u4, u5, u6, u7, u8, u9, u10, u11, u12, u13, u14, u15, u16, u17, u18, u19, u20, u21, u22, u23, u24, u25, u26, u27, u28, u29, u30, u31, u32, u33, u34, u35, u36, u37, (.slice pf m cf), (.slice p39 n39 c39), (.slice pf m cf), (.slice pf m cf), s42, s43, (.slice p44 n44 c44), (.int .u8 x), v46, (.slice pf m cf), v48, v49, (.slice pf m cf), undef, (.int .u8 x), v53, undef, undef, (.slice pf m cf), undef, (.slice pf m cf), undef, undef, undef, (.int .i64 0), u63, u64, u65, u66, u67, u68, u69, u70, u71, u72, u73, u74, u75, u76, u77, u78, u79], defers := [] } w := by
  refine wpAny_ready (rs := [13, 17]) (by kernel_rfl) (by simp) ?_
  refine AllReady.cons (o := { dst := some 51, op := Op.call { callee := Callee.builtin Builtin.append, args := #[Operand.tmp 49, Operand.tmp 50], argTypes := #[23, 23] }, type := 23, pos := "law.go:87", after := #[{ on := 11, ground := Ground.data }, { on := 12, ground := Ground.data }, { on := 10, ground := Ground.chain }], guard := none }) rfl (fun K hK => ?_) ?_
  · have h' : Inv w0 w [(v49, []), (v48, (x :: fl)), (v53, [x])] := h.perm (List.perm_middle (l₁ := [(v48, (x :: fl))]) (l₂ := [(v53, [x])]))
    refine step_app h' rfl _ _ rfl rfl pf m cf fl rfl (hf.below h.grew) hm (by have := hf.len; simp; omega) ?_
    intro v51 w' h2
    refine hK _ _ ?_
    clear hK K
    (try simp only [Act.put, List.setIfInBounds_toArray, List.set_cons_zero, List.set_cons_succ])
    exact st_2_464953 w0 pf m cf x fl p39 p44 n39 c39 n44 c44 s42 s43 u0 u1 u2 u3 u4 u5 u6 u7 u8 u9 u10 u11 u12 u13 u14 u15 u16 u17 u18 u19 u20 u21 u22 u23 u24 u25 u26 u27 u28 u29 u30 u31 u32 u33 u34 u35 u36 u37 u63 u64 u65 u66 u67 u68 u69 u70 u71 u72 u73 u74 u75 u76 u77 u78 u79 hf hm hm2 hx w' v46 v48 v49 v51 v53 (h2.perm (List.perm_middle (l₁ := [(v48, (x :: fl))]) (l₂ := [(v53, [x])])).symm)
  refine AllReady.cons (o := { dst := some 55, op := Op.buildSlice 23 0 #[], type := 23, pos := "law.go:87", after := #[], guard := none }) rfl (fun K hK => ?_) ?_
  · go_simp
    refine hK _ _ ?_
    clear hK K
    (try simp only [List.setIfInBounds_toArray, List.set_cons_zero, List.set_cons_succ])
    exact st_1_46495355 w0 pf m cf x fl p39 p44 n39 c39 n44 c44 s42 s43 u0 u1 u2 u3 u4 u5 u6 u7 u8 u9 u10 u11 u12 u13 u14 u15 u16 u17 u18 u19 u20 u21 u22 u23 u24 u25 u26 u27 u28 u29 u30 u31 u32 u33 u34 u35 u36 u37 u63 u64 u65 u66 u67 u68 u69 u70 u71 u72 u73 u74 u75 u76 u77 u78 u79 hf hm hm2 hx _ v46 v48 v49 v53 (.slice (some ⟨w.heap.size, 0, none⟩) 0 0) ((h.new [] (by simp)).perm (List.perm_middle (l₁ := [(v48, (x :: fl)), (v49, []), (v53, [x])]) (l₂ := [])).symm)
  exact AllReady.nil

set_option maxRecDepth 100000 in
set_option maxHeartbeats 2000000 in
theorem st_1_464955 (w0 : World) (pf : Option Addr) (m cf : Nat) (x : Int) (fl : List Int) (p39 p44 : Option Addr) (n39 c39 n44 c44 : Nat) (s42 s43 u0 u1 u2 u3 u4 u5 u6 u7 u8 u9 u10 u11 u12 u13 u14 u15 u16 u17 u18 u19 u20 u21 u22 u23 u24 u25 u26 u27 u28 u29 u30 u31 u32 u33 u34 u35 u36 u37 u63 u64 u65 u66 u67 u68 u69 u70 u71 u72 u73 u74 u75 u76 u77 u78 u79 : Value) (hf : ArgC w0 pf m cf fl) (hm : 0 < m) (hm2 : m ≤ 2000) (hx : 0 ≤ x ∧ x ≤ 255) (w : World) (v46 v48 v49 v55 : Value) (h : Inv w0 w [(v48, (x :: fl)), (v49, []), (v55, [])]) : wpAny Tryd.prog .any cutsOps (CutsPost w0 pf m cf x fl p39 p44 n39 c39 n44 c44 s42 s43 u0 u1 u2 u3 u4 u5 u6 u7 u8 u9 u10 u11 u12 u13 u14 u15 u16 u17 u18 u19 u20 u21 u22 u23 u24 u25 u26 u27 u28 u29 u30 u31 u32 u33 u34 u35 u36 u37 u63 u64 u65 u66 u67 u68 u69 u70 u71 u72 u73 u74 u75 u76 u77 u78 u79 hf hm hm2 hx) 7 #[true, true, true, true, true, true, true, true, true, true, true, true, true, false, true, false, false, true, true, false, true, false, false, false, true] { tmps := #[u0, u1, u2, u3, u4, u5, u6, u7, u8, u9, u10, u11, u12, u13, u14, u15, u16, u17, u18, u19, u20, u21, u22, u23, u24, u25, u26, u27, u28, u29, u30, u31, u32, u33, u34, u35, u36, u37, (.slice pf m cf), (.slice p39 n39 c39), (.slice pf m cf), (.slice pf m cf), s42, s43, (.slice p44 n44 c44), (.int .u8 x), v46, (.slice pf m cf), v48, v49, (.slice pf m cf), undef, (.int .u8 x), undef, undef, v55, (.slice pf m cf), undef, (.slice pf m cf), undef, undef, undef, (.int .i64 0), u63, u64, u65, u66, u67, u68, u69, u70, u71, u72, u73, u74, u75, u76, u77, u78, u79], defers := [] } w := by
  refine wpAny_ready (rs := [13, 15]) (by kernel_rfl) (by simp) ?_
  refine AllReady.cons (o := { dst := some 51, op := Op.call { callee := Callee.builtin Builtin.append, args := #[Operand.tmp 49, Operand.tmp 50], argTypes := #[23, 23] }, type := 23, pos := "law.go:87", after := #[{ on := 11, ground := Ground.data }, { on := 12, ground := Ground.data }, { on := 10, ground := Ground.chain }], guard := none }) rfl (fun K hK => ?_) ?_
  · have h' : Inv w0 w [(v49, []), (v48, (x :: fl)), (v55, [])] := h.perm (List.perm_middle (l₁ := [(v48, (x :: fl))]) (l₂ := [(v55, [])]))
    refine step_app h' rfl _ _ rfl rfl pf m cf fl rfl (hf.below h.grew) hm (by have := hf.len; simp; omega) ?_
    intro v51 w' h2
    refine hK _ _ ?_
    clear hK K
    (try simp only [Act.put, List.setIfInBounds_toArray, List.set_cons_zero, List.set_cons_succ])
    exact st_2_464955 w0 pf m cf x fl p39 p44 n39 c39 n44 c44 s42 s43 u0 u1 u2 u3 u4 u5 u6 u7 u8 u9 u10 u11 u12 u13 u14 u15 u16 u17 u18 u19 u20 u21 u22 u23 u24 u25 u26 u27 u28 u29 u30 u31 u32 u33 u34 u35 u36 u37 u63 u64 u65 u66 u67 u68 u69 u70 u71 u72 u73 u74 u75 u76 u77 u78 u79 hf hm hm2 hx w' v46 v48 v49 v51 v55 (h2.perm (List.perm_middle (l₁ := [(v48, (x :: fl))]) (l₂ := [(v55, [])])).symm)
  refine AllReady.cons (o := { dst := some 53, op := Op.buildSlice 23 1 #[(0, Operand.tmp 52)], type := 23, pos := "law.go:87", after := #[{ on := 14, ground := Ground.data }], guard := none }) rfl (fun K hK => ?_) ?_
  · go_simp
    refine hK _ _ ?_
    clear hK K
    (try simp only [List.setIfInBounds_toArray, List.set_cons_zero, List.set_cons_succ])
    exact st_1_46495355 w0 pf m cf x fl p39 p44 n39 c39 n44 c44 s42 s43 u0 u1 u2 u3 u4 u5 u6 u7 u8 u9 u10 u11 u12 u13 u14 u15 u16 u17 u18 u19 u20 u21 u22 u23 u24 u25 u26 u27 u28 u29 u30 u31 u32 u33 u34 u35 u36 u37 u63 u64 u65 u66 u67 u68 u69 u70 u71 u72 u73 u74 u75 u76 u77 u78 u79 hf hm hm2 hx _ v46 v48 v49 (.slice (some ⟨w.heap.size, 0, none⟩) 1 1) v55 ((h.new [x] (by simp)).perm (List.perm_middle (l₁ := [(v48, (x :: fl)), (v49, [])]) (l₂ := [(v55, [])])).symm)
  exact AllReady.nil

set_option maxRecDepth 100000 in
set_option maxHeartbeats 2000000 in
theorem st_1_465355 (w0 : World) (pf : Option Addr) (m cf : Nat) (x : Int) (fl : List Int) (p39 p44 : Option Addr) (n39 c39 n44 c44 : Nat) (s42 s43 u0 u1 u2 u3 u4 u5 u6 u7 u8 u9 u10 u11 u12 u13 u14 u15 u16 u17 u18 u19 u20 u21 u22 u23 u24 u25 u26 u27 u28 u29 u30 u31 u32 u33 u34 u35 u36 u37 u63 u64 u65 u66 u67 u68 u69 u70 u71 u72 u73 u74 u75 u76 u77 u78 u79 : Value) (hf : ArgC w0 pf m cf fl) (hm : 0 < m) (hm2 : m ≤ 2000) (hx : 0 ≤ x ∧ x ≤ 255) (w : World) (v46 v48 v53 v55 : Value) (h : Inv w0 w [(v48, (x :: fl)), (v53, [x]), (v55, [])]) : wpAny Tryd.prog .any cutsOps (CutsPost w0 pf m cf x fl p39 p44 n39 c39 n44 c44 s42 s43 u0 u1 u2 u3 u4 u5 u6 u7 u8 u9 u10 u11 u12 u13 u14 u15 u16 u17 u18 u19 u20 u21 u22 u23 u24 u25 u26 u27 u28 u29 u30 u31 u32 u33 u34 u35 u36 u37 u63 u64 u65 u66 u67 u68 u69 u70 u71 u72 u73 u74 u75 u76 u77 u78 u79 hf hm hm2 hx) 7 #[true, true, true, true, true, true, true, true, true, true, true, false, true, false, true, true, false, true, true, false, true, false, false, false, true] { tmps := #[u0, u1, u2, u3, u4, u5, u6, u7, u8, u9, u10, u11, u12, u13, u14, u15, u16, u17, u18, u19, u20, u21, u22, u23, u24, u25, u26, u27, u28, u29, u30, u31, u32, u33, u34, u35, u36, u37, (.slice pf m cf), (.slice p39 n39 c39), (.slice pf m cf), (.slice pf m cf), s42, s43, (.slice p44 n44 c44), (.int .u8 x), v46, (.slice pf m cf), v48, undef, (.slice pf m cf), undef, (.int .u8 x), v53, undef, v55, (.slice pf m cf), undef, (.slice pf m cf), undef, undef, undef, (.int .i64 0), u63, u64, u65, u66, u67, u68, u69, u70, u71, u72, u73, u74, u75, u76, u77, u78, u79], defers := [] } w := by
  refine wpAny_ready (rs := [11]) (by kernel_rfl) (by simp) ?_
  refine AllReady.cons (o := { dst := some 49, op := Op.buildSlice 23 0 #[], type := 23, pos := "law.go:87", after := #[], guard := none }) rfl (fun K hK => ?_) ?_
  · go_simp
    refine hK _ _ ?_
    clear hK K
    (try simp only [List.setIfInBounds_toArray, List.set_cons_zero, List.set_cons_succ])
    exact st_1_46495355 w0 pf m cf x fl p39 p44 n39 c39 n44 c44 s42 s43 u0 u1 u2 u3 u4 u5 u6 u7 u8 u9 u10 u11 u12 u13 u14 u15 u16 u17 u18 u19 u20 u21 u22 u23 u24 u25 u26 u27 u28 u29 u30 u31 u32 u33 u34 u35 u36 u37 u63 u64 u65 u66 u67 u68 u69 u70 u71 u72 u73 u74 u75 u76 u77 u78 u79 hf hm hm2 hx _ v46 v48 (.slice (some ⟨w.heap.size, 0, none⟩) 0 0) v53 v55 ((h.new [] (by simp)).perm (List.perm_middle (l₁ := [(v48, (x :: fl))]) (l₂ := [(v53, [x]), (v55, [])])).symm)
  exact AllReady.nil

set_option maxRecDepth 100000 in
set_option maxHeartbeats 2000000 in
theorem st_1_4649 (w0 : World) (pf : Option Addr) (m cf : Nat) (x : Int) (fl : List Int) (p39 p44 : Option Addr) (n39 c39 n44 c44 : Nat) (s42 s43 u0 u1 u2 u3 u4 u5 u6 u7 u8 u9 u10 u11 u12 u13 u14 u15 u16 u17 u18 u19 u20 u21 u22 u23 u24 u25 u26 u27 u28 u29 u30 u31 u32 u33 u34 u35 u36 u37 u63 u64 u65 u66 u67 u68 u69 u70 u71 u72 u73 u74 u75 u76 u77 u78 u79 : Value) (hf : ArgC w0 pf m cf fl) (hm : 0 < m) (hm2 : m ≤ 2000) (hx : 0 ≤ x ∧ x ≤ 255) (w : World) (v46 v48 v49 : Value) (h : Inv w0 w [(v48, (x :: fl)), (v49, [])]) : wpAny Tryd.prog .any cutsOps (CutsPost w0 pf m cf x fl p39 p44 n39 c39 n44 c44 s42 s43 u0 u1 u2 u3 u4 u5 u6 u7 u8 u9 u10 u11 u12 u13 u14 u15 u16 u17 u18 u19 u20 u21 u22 u23 u24 u25 u26 u27 u28 u29 u30 u31 u32 u33 u34 u35 u36 u37 u63 u64 u65 u66 u67 u68 u69 u70 u71 u72 u73 u74 u75 u76 u77 u78 u79 hf hm hm2 hx) 8 #[true, true, true, true, true, true, true, true, true, true, true, true, true, false, true, false, false, false, true, false, true, false, false, false, true] { tmps := #[u0, u1, u2, u3, u4, u5, u6, u7, u8, u9, u10, u11, u12, u13, u14, u15, u16, u17, u18, u19, u20, u21, u22, u23, u24, u25, u26, u27, u28, u29, u30, u31, u32, u33, u34, u35, u36, u37, (.slice pf m cf), (.slice p39 n39 c39), (.slice pf m cf), (.slice pf m cf), s42, s43, (.slice p44 n44 c44), (.int .u8 x), v46, (.slice pf m cf), v48, v49, (.slice pf m cf), undef, (.int .u8 x), undef, undef, undef, (.slice pf m cf), undef, (.slice pf m cf), undef, undef, undef, (.int .i64 0), u63, u64, u65, u66, u67, u68, u69, u70, u71, u72, u73, u74, u75, u76, u77, u78, u79], defers := [] } w := by
  refine wpAny_ready (rs := [13, 15, 17]) (by kernel_rfl) (by simp) ?_
  refine AllReady.cons (o := { dst := some 51, op := Op.call { callee := Callee.builtin Builtin.append, args := #[Operand.tmp 49, Operand.tmp 50], argTypes := #[23, 23] }, type := 23, pos := "law.go:87", after := #[{ on := 11, ground := Ground.data }, { on := 12, ground := Ground.data }, { on := 10, ground := Ground.chain }], guard := none }) rfl (fun K hK => ?_) ?_
  · have h' : Inv w0 w [(v49, []), (v48, (x :: fl))] := h.perm (List.perm_middle (l₁ := [(v48, (x :: fl))]) (l₂ := []))
    refine step_app h' rfl _ _ rfl rfl pf m cf fl rfl (hf.below h.grew) hm (by have := hf.len; simp; omega) ?_
    intro v51 w' h2
    refine hK _ _ ?_
    clear hK K
    (try simp only [Act.put, List.setIfInBounds_toArray, List.set_cons_zero, List.set_cons_succ])
    exact st_2_4649 w0 pf m cf x fl p39 p44 n39 c39 n44 c44 s42 s43 u0 u1 u2 u3 u4 u5 u6 u7 u8 u9 u10 u11 u12 u13 u14 u15 u16 u17 u18 u19 u20 u21 u22 u23 u24 u25 u26 u27 u28 u29 u30 u31 u32 u33 u34 u35 u36 u37 u63 u64 u65 u66 u67 u68 u69 u70 u71 u72 u73 u74 u75 u76 u77 u78 u79 hf hm hm2 hx w' v46 v48 v49 v51 (h2.perm (List.perm_middle (l₁ := [(v48, (x :: fl))]) (l₂ := [])).symm)
  refine AllReady.cons (o := { dst := some 53, op := Op.buildSlice 23 1 #[(0, Operand.tmp 52)], type := 23, pos := "law.go:87", after := #[{ on := 14, ground := Ground.data }], guard := none }) rfl (fun K hK => ?_) ?_
  · go_simp
    refine hK _ _ ?_
    clear hK K
    (try simp only [List.setIfInBounds_toArray, List.set_cons_zero, List.set_cons_succ])
    exact st_1_464953 w0 pf m cf x fl p39 p44 n39 c39 n44 c44 s42 s43 u0 u1 u2 u3 u4 u5 u6 u7 u8 u9 u10 u11 u12 u13 u14 u15 u16 u17 u18 u19 u20 u21 u22 u23 u24 u25 u26 u27 u28 u29 u30 u31 u32 u33 u34 u35 u36 u37 u63 u64 u65 u66 u67 u68 u69 u70 u71 u72 u73 u74 u75 u76 u77 u78 u79 hf hm hm2 hx _ v46 v48 v49 (.slice (some ⟨w.heap.size, 0, none⟩) 1 1) ((h.new [x] (by simp)).perm (List.perm_middle (l₁ := [(v48, (x :: fl)), (v49, [])]) (l₂ := [])).symm)
  refine AllReady.cons (o := { dst := some 55, op := Op.buildSlice 23 0 #[], type := 23, pos := "law.go:87", after := #[], guard := none }) rfl (fun K hK => ?_) ?_
  · go_simp
    refine hK _ _ ?_
    clear hK K
    (try simp only [List.setIfInBounds_toArray, List.set_cons_zero, List.set_cons_succ])
    exact st_1_464955 w0 pf m cf x fl p39 p44 n39 c39 n44 c44 s42 s43 u0 u1 u2 u3 u4 u5 u6 u7 u8 u9 u10 u11 u12 u13 u14 u15 u16 u17 u18 u19 u20 u21 u22 u23 u24 u25 u26 u27 u28 u29 u30 u31 u32 u33 u34 u35 u36 u37 u63 u64 u65 u66 u67 u68 u69 u70 u71 u72 u73 u74 u75 u76 u77 u78 u79 hf hm hm2 hx _ v46 v48 v49 (.slice (some ⟨w.heap.size, 0, none⟩) 0 0) ((h.new [] (by simp)).perm (List.perm_middle (l₁ := [(v48, (x :: fl)), (v49, [])]) (l₂ := [])).symm)
  exact AllReady.nil

set_option maxRecDepth 100000 in
set_option maxHeartbeats 2000000 in
theorem st_1_4653 (w0 : World) (pf : Option Addr) (m cf : Nat) (x : Int) (fl : List Int) (p39 p44 : Option Addr) (n39 c39 n44 c44 : Nat) (s42 s43 u0 u1 u2 u3 u4 u5 u6 u7 u8 u9 u10 u11 u12 u13 u14 u15 u16 u17 u18 u19 u20 u21 u22 u23 u24 u25 u26 u27 u28 u29 u30 u31 u32 u33 u34 u35 u36 u37 u63 u64 u65 u66 u67 u68 u69 u70 u71 u72 u73 u74 u75 u76 u77 u78 u79 : Value) (hf : ArgC w0 pf m cf fl) (hm : 0 < m) (hm2 : m ≤ 2000) (hx : 0 ≤ x ∧ x ≤ 255) (w : World) (v46 v48 v53 : Value) (h : Inv w0 w [(v48, (x :: fl)), (v53, [x])]) : wpAny Tryd.prog .any cutsOps (CutsPost w0 pf m cf x fl p39 p44 n39 c39 n44 c44 s42 s43 u0 u1 u2 u3 u4 u5 u6 u7 u8 u9 u10 u11 u12 u13 u14 u15 u16 u17 u18 u19 u20 u21 u22 u23 u24 u25 u26 u27 u28 u29 u30 u31 u32 u33 u34 u35 u36 u37 u63 u64 u65 u66 u67 u68 u69 u70 u71 u72 u73 u74 u75 u76 u77 u78 u79 hf hm hm2 hx) 8 #[true, true, true, true, true, true, true, true, true, true, true, false, true, false, true, true, false, false, true, false, true, false, false, false, true] { tmps := #[u0, u1, u2, u3, u4, u5, u6, u7, u8, u9, u10, u11, u12, u13, u14, u15, u16, u17, u18, u19, u20, u21, u22, u23, u24, u25, u26, u27, u28, u29, u30, u31, u32, u33, u34, u35, u36, u37, (.slice pf m cf), (.slice p39 n39 c39), (.slice pf m cf), (.slice pf m cf), s42, s43, (.slice p44 n44 c44), (.int .u8 x), v46, (.slice pf m cf), v48, undef, (.slice pf m cf), undef, (.int .u8 x), v53, undef, undef, (.slice pf m cf), undef, (.slice pf m cf), undef, undef, undef, (.int .i64 0), u63, u64, u65, u66, u67, u68, u69, u70, u71, u72, u73, u74, u75, u76, u77, u78, u79], defers := [] } w := by
  refine wpAny_ready (rs := [11, 17]) (by kernel_rfl) (by simp) ?_
  refine AllReady.cons (o := { dst := some 49, op := Op.buildSlice 23 0 #[], type := 23, pos := "law.go:87", after := #[], guard := none }) rfl (fun K hK => ?_) ?_
  · go_simp
    refine hK _ _ ?_
    clear hK K
    (try simp only [List.setIfInBounds_toArray, List.set_cons_zero, List.set_cons_succ])
    exact st_1_464953 w0 pf m cf x fl p39 p44 n39 c39 n44 c44 s42 s43 u0 u1 u2 u3 u4 u5 u6 u7 u8 u9 u10 u11 u12 u13 u14 u15 u16 u17 u18 u19 u20 u21 u22 u23 u24 u25 u26 u27 u28 u29 u30 u31 u32 u33 u34 u35 u36 u37 u63 u64 u65 u66 u67 u68 u69 u70 u71 u72 u73 u74 u75 u76 u77 u78 u79 hf hm hm2 hx _ v46 v48 (.slice (some ⟨w.heap.size, 0, none⟩) 0 0) v53 ((h.new [] (by simp)).perm (List.perm_middle (l₁ := [(v48, (x :: fl))]) (l₂ := [(v53, [x])])).symm)
  refine AllReady.cons (o := { dst := some 55, op := Op.buildSlice 23 0 #[], type := 23, pos := "law.go:87", after := #[], guard := none }) rfl (fun K hK => ?_) ?_
  · go_simp
    refine hK _ _ ?_
    clear hK K
    (try simp only [List.setIfInBounds_toArray, List.set_cons_zero, List.set_cons_succ])
    exact st_1_465355 w0 pf m cf x fl p39 p44 n39 c39 n44 c44 s42 s43 u0 u1 u2 u3 u4 u5 u6 u7 u8 u9 u10 u11 u12 u13 u14 u15 u16 u17 u18 u19 u20 u21 u22 u23 u24 u25 u26 u27 u28 u29 u30 u31 u32 u33 u34 u35 u36 u37 u63 u64 u65 u66 u67 u68 u69 u70 u71 u72 u73 u74 u75 u76 u77 u78 u79 hf hm hm2 hx _ v46 v48 v53 (.slice (some ⟨w.heap.size, 0, none⟩) 0 0) ((h.new [] (by simp)).perm (List.perm_middle (l₁ := [(v48, (x :: fl)), (v53, [x])]) (l₂ := [])).symm)
  exact AllReady.nil

set_option maxRecDepth 100000 in
set_option maxHeartbeats 2000000 in
theorem st_1_4655 (w0 : World) (pf : Option Addr) (m cf : Nat) (x : Int) (fl : List Int) (p39 p44 : Option Addr) (n39 c39 n44 c44 : Nat) (s42 s43 u0 u1 u2 u3 u4 u5 u6 u7 u8 u9 u10 u11 u12 u13 u14 u15 u16 u17 u18 u19 u20 u21 u22 u23 u24 u25 u26 u27 u28 u29 u30 u31 u32 u33 u34 u35 u36 u37 u63 u64 u65 u66 u67 u68 u69 u70 u71 u72 u73 u74 u75 u76 u77 u78 u79 : Value) (hf : ArgC w0 pf m cf fl) (hm : 0 < m) (hm2 : m ≤ 2000) (hx : 0 ≤ x ∧ x ≤ 255) (w : World) (v46 v48 v55 : Value) (h : Inv w0 w [(v48, (x :: fl)), (v55, [])]) : wpAny Tryd.prog .any cutsOps (CutsPost w0 pf m cf x fl p39 p44 n39 c39 n44 c44 s42 s43 u0 u1 u2 u3 u4 u5 u6 u7 u8 u9 u10 u11 u12 u13 u14 u15 u16 u17 u18 u19 u20 u21 u22 u23 u24 u25 u26 u27 u28 u29 u30 u31 u32 u33 u34 u35 u36 u37 u63 u64 u65 u66 u67 u68 u69 u70 u71 u72 u73 u74 u75 u76 u77 u78 u79 hf hm hm2 hx) 8 #[true, true, true, true, true, true, true, true, true, true, true, false, true, false, true, false, false, true, true, false, true, false, false, false, true] { tmps := #[u0, u1, u2, u3, u4, u5, u6, u7, u8, u9, u10, u11, u12, u13, u14, u15, u16, u17, u18, u19, u20, u21, u22, u23, u24, u25, u26, u27, u28, u29, u30, u31, u32, u33, u34, u35, u36, u37, (.slice pf m cf), (.slice p39 n39 c39), (.slice pf m cf), (.slice pf m cf), s42, s43, (.slice p44 n44 c44), (.int .u8 x), v46, (.slice pf m cf), v48, undef, (.slice pf m cf), undef, (.int .u8 x), undef, undef, v55, (.slice pf m cf), undef, (.slice pf m cf), undef, undef, undef, (.int .i64 0), u63, u64, u65, u66, u67, u68, u69, u70, u71, u72, u73, u74, u75, u76, u77, u78, u79], defers := [] } w := by
  refine wpAny_ready (rs := [11, 15]) (by kernel_rfl) (by simp) ?_
  refine AllReady.cons (o := { dst := some 49, op := Op.buildSlice 23 0 #[], type := 23, pos := "law.go:87", after := #[], guard := none }) rfl (fun K hK => ?_) ?_
  · go_simp
    refine hK _ _ ?_
    clear hK K
    (try simp only [List.setIfInBounds_toArray, List.set_cons_zero, List.set_cons_succ])
    exact st_1_464955 w0 pf m cf x fl p39 p44 n39 c39 n44 c44 s42 s43 u0 u1 u2 u3 u4 u5 u6 u7 u8 u9 u10 u11 u12 u13 u14 u15 u16 u17 u18 u19 u20 u21 u22 u23 u24 u25 u26 u27 u28 u29 u30 u31 u32 u33 u34 u35 u36 u37 u63 u64 u65 u66 u67 u68 u69 u70 u71 u72 u73 u74 u75 u76 u77 u78 u79 hf hm hm2 hx _ v46 v48 (.slice (some ⟨w.heap.size, 0, none⟩) 0 0) v55 ((h.new [] (by simp)).perm (List.perm_middle (l₁ := [(v48, (x :: fl))]) (l₂ := [(v55, [])])).symm)
  refine AllReady.cons (o := { dst := some 53, op := Op.buildSlice 23 1 #[(0, Operand.tmp 52)], type := 23, pos := "law.go:87", after := #[{ on := 14, ground := Ground.data }], guard := none }) rfl (fun K hK => ?_) ?_
  · go_simp
    refine hK _ _ ?_
    clear hK K
    (try simp only [List.setIfInBounds_toArray, List.set_cons_zero, List.set_cons_succ])
    exact st_1_465355 w0 pf m cf x fl p39 p44 n39 c39 n44 c44 s42 s43 u0 u1 u2 u3 u4 u5 u6 u7 u8 u9 u10 u11 u12 u13 u14 u15 u16 u17 u18 u19 u20 u21 u22 u23 u24 u25 u26 u27 u28 u29 u30 u31 u32 u33 u34 u35 u36 u37 u63 u64 u65 u66 u67 u68 u69 u70 u71 u72 u73 u74 u75 u76 u77 u78 u79 hf hm hm2 hx _ v46 v48 (.slice (some ⟨w.heap.size, 0, none⟩) 1 1) v55 ((h.new [x] (by simp)).perm (List.perm_middle (l₁ := [(v48, (x :: fl))]) (l₂ := [(v55, [])])).symm)
  exact AllReady.nil

set_option maxRecDepth 100000 in
set_option maxHeartbeats 2000000 in
theorem st_1_46 (w0 : World) (pf : Option Addr) (m cf : Nat) (x : Int) (fl : List Int) (p39 p44 : Option Addr) (n39 c39 n44 c44 : Nat) (s42 s43 u0 u1 u2 u3 u4 u5 u6 u7 u8 u9 u10 u11 u12 u13 u14 u15 u16 u17 u18 u19 u20 u21 u22 u23 u24 u25 u26 u27 u28 u29 u30 u31 u32 u33 u34 u35 u36 u37 u63 u64 u65 u66 u67 u68 u69 u70 u71 u72 u73 u74 u75 u76 u77 u78 u79 : Value) (hf : ArgC w0 pf m cf fl) (hm : 0 < m) (hm2 : m ≤ 2000) (hx : 0 ≤ x ∧ x ≤ 255) (w : World) (v46 v48 : Value) (h : Inv w0 w [(v48, (x :: fl))]) : wpAny Tryd.prog .any cutsOps (CutsPost w0 pf m cf x fl p39 p44 n39 c39 n44 c44 s42 s43 u0 u1 u2 u3 u4 u5 u6 u7 u8 u9 u10 u11 u12 u13 u14 u15 u16 u17 u18 u19 u20 u21 u22 u23 u24 u25 u26 u27 u28 u29 u30 u31 u32 u33 u34 u35 u36 u37 u63 u64 u65 u66 u67 u68 u69 u70 u71 u72 u73 u74 u75 u76 u77 u78 u79 hf hm hm2 hx) 9 #[true, true, true, true, true, true, true, true, true, true, true, false, true, false, true, false, false, false, true, false, true, false, false, false, true] { tmps := #[u0, u1, u2, u3, u4, u5, u6, u7, u8, u9, u10, u11, u12, u13, u14, u15, u16, u17, u18, u19, u20, u21, u22, u23, u24, u25, u26, u27, u28, u29, u30, u31, u32, u33, u34, u35, u36, u37, (.slice pf m cf), (.slice p39 n39 c39), (.slice pf m cf), (.slice pf m cf), s42, s43, (.slice p44 n44 c44), (.int .u8 x), v46, (.slice pf m cf), v48, undef, (.slice pf m cf), undef, (.int .u8 x), undef, undef, undef, (.slice pf m cf), undef, (.slice pf m cf), undef, undef, undef, (.int .i64 0), u63, u64, u65, u66, u67, u68, u69, u70, u71, u72, u73, u74, u75, u76, u77, u78, u79], defers := [] } w := by
  refine wpAny_ready (rs := [11, 15, 17]) (by kernel_rfl) (by simp) ?_
  refine AllReady.cons (o := { dst := some 49, op := Op.buildSlice 23 0 #[], type := 23, pos := "law.go:87", after := #[], guard := none }) rfl (fun K hK => ?_) ?_
  · go_simp
    refine hK _ _ ?_
    clear hK K
    (try simp only [List.setIfInBounds_toArray, List.set_cons_zero, List.set_cons_succ])
    exact st_1_4649 w0 pf m cf x fl p39 p44 n39 c39 n44 c44 s42 s43 u0 u1 u2 u3 u4 u5 u6 u7 u8 u9 u10 u11 u12 u13 u14 u15 u16 u17 u18 u19 u20 u21 u22 u23 u24 u25 u26 u27 u28 u29 u30 u31 u32 u33 u34 u35 u36 u37 u63 u64 u65 u66 u67 u68 u69 u70 u71 u72 u73 u74 u75 u76 u77 u78 u79 hf hm hm2 hx _ v46 v48 (.slice (some ⟨w.heap.size, 0, none⟩) 0 0) ((h.new [] (by simp)).perm (List.perm_middle (l₁ := [(v48, (x :: fl))]) (l₂ := [])).symm)
  refine AllReady.cons (o := { dst := some 53, op := Op.buildSlice 23 1 #[(0, Operand.tmp 52)], type := 23, pos := "law.go:87", after := #[{ on := 14, ground := Ground.data }], guard := none }) rfl (fun K hK => ?_) ?_
  · go_simp
    refine hK _ _ ?_
    clear hK K
    (try simp only [List.setIfInBounds_toArray, List.set_cons_zero, List.set_cons_succ])
    exact st_1_4653 w0 pf m cf x fl p39 p44 n39 c39 n44 c44 s42 s43 u0 u1 u2 u3 u4 u5 u6 u7 u8 u9 u10 u11 u12 u13 u14 u15 u16 u17 u18 u19 u20 u21 u22 u23 u24 u25 u26 u27 u28 u29 u30 u31 u32 u33 u34 u35 u36 u37 u63 u64 u65 u66 u67 u68 u69 u70 u71 u72 u73 u74 u75 u76 u77 u78 u79 hf hm hm2 hx _ v46 v48 (.slice (some ⟨w.heap.size, 0, none⟩) 1 1) ((h.new [x] (by simp)).perm (List.perm_middle (l₁ := [(v48, (x :: fl))]) (l₂ := [])).symm)
  refine AllReady.cons (o := { dst := some 55, op := Op.buildSlice 23 0 #[], type := 23, pos := "law.go:87", after := #[], guard := none }) rfl (fun K hK => ?_) ?_
  · go_simp
    refine hK _ _ ?_
    clear hK K
    (try simp only [List.setIfInBounds_toArray, List.set_cons_zero, List.set_cons_succ])
    exact st_1_4655 w0 pf m cf x fl p39 p44 n39 c39 n44 c44 s42 s43 u0 u1 u2 u3 u4 u5 u6 u7 u8 u9 u10 u11 u12 u13 u14 u15 u16 u17 u18 u19 u20 u21 u22 u23 u24 u25 u26 u27 u28 u29 u30 u31 u32 u33 u34 u35 u36 u37 u63 u64 u65 u66 u67 u68 u69 u70 u71 u72 u73 u74 u75 u76 u77 u78 u79 hf hm hm2 hx _ v46 v48 (.slice (some ⟨w.heap.size, 0, none⟩) 0 0) ((h.new [] (by simp)).perm (List.perm_middle (l₁ := [(v48, (x :: fl))]) (l₂ := [])).symm)
  exact AllReady.nil

set_option maxRecDepth 100000 in
set_option maxHeartbeats 2000000 in
theorem st_0_46495355 (w0 : World) (pf : Option Addr) (m cf : Nat) (x : Int) (fl : List Int) (p39 p44 : Option Addr) (n39 c39 n44 c44 : Nat) (s42 s43 u0 u1 u2 u3 u4 u5 u6 u7 u8 u9 u10 u11 u12 u13 u14 u15 u16 u17 u18 u19 u20 u21 u22 u23 u24 u25 u26 u27 u28 u29 u30 u31 u32 u33 u34 u35 u36 u37 u63 u64 u65 u66 u67 u68 u69 u70 u71 u72 u73 u74 u75 u76 u77 u78 u79 : Value) (hf : ArgC w0 pf m cf fl) (hm : 0 < m) (hm2 : m ≤ 2000) (hx : 0 ≤ x ∧ x ≤ 255) (w : World) (v46 v49 v53 v55 : Value) (h : Inv w0 w [(v46, [x]), (v49, []), (v53, [x]), (v55, [])]) : wpAny Tryd.prog .any cutsOps (CutsPost w0 pf m cf x fl p39 p44 n39 c39 n44 c44 s42 s43 u0 u1 u2 u3 u4 u5 u6 u7 u8 u9 u10 u11 u12 u13 u14 u15 u16 u17 u18 u19 u20 u21 u22 u23 u24 u25 u26 u27 u28 u29 u30 u31 u32 u33 u34 u35 u36 u37 u63 u64 u65 u66 u67 u68 u69 u70 u71 u72 u73 u74 u75 u76 u77 u78 u79 hf hm hm2 hx) 7 #[true, true, true, true, true, true, true, true, true, true, false, true, true, false, true, true, false, true, true, false, true, false, false, false, true] { tmps := #[u0, u1, u2, u3, u4, u5, u6, u7, u8, u9, u10, u11, u12, u13, u14, u15, u16, u17, u18, u19, u20, u21, u22, u23, u24, u25, u26, u27, u28, u29, u30, u31, u32, u33, u34, u35, u36, u37, (.slice pf m cf), (.slice p39 n39 c39), (.slice pf m cf), (.slice pf m cf), s42, s43, (.slice p44 n44 c44), (.int .u8 x), v46, (.slice pf m cf), undef, v49, (.slice pf m cf), undef, (.int .u8 x), v53, undef, v55, (.slice pf m cf), undef, (.slice pf m cf), undef, undef, undef, (.int .i64 0), u63, u64, u65, u66, u67, u68, u69, u70, u71, u72, u73, u74, u75, u76, u77, u78, u79], defers := [] } w := by
  refine wpAny_ready (rs := [10]) (by kernel_rfl) (by simp) ?_
  refine AllReady.cons (o := { dst := some 48, op := Op.call { callee := Callee.builtin Builtin.append, args := #[Operand.tmp 46, Operand.tmp 47], argTypes := #[23, 23] }, type := 23, pos := "law.go:87", after := #[{ on := 8, ground := Ground.data }, { on := 9, ground := Ground.data }], guard := none }) rfl (fun K hK => ?_) ?_
  · have h' : Inv w0 w [(v46, [x]), (v49, []), (v53, [x]), (v55, [])] := h.perm (List.perm_middle (l₁ := []) (l₂ := [(v49, []), (v53, [x]), (v55, [])]))
    refine step_app h' rfl _ _ rfl rfl pf m cf fl rfl (hf.below h.grew) hm (by have := hf.len; simp; omega) ?_
    intro v48 w' h2
    refine hK _ _ ?_
    clear hK K
    (try simp only [Act.put, List.setIfInBounds_toArray, List.set_cons_zero, List.set_cons_succ])
    exact st_1_46495355 w0 pf m cf x fl p39 p44 n39 c39 n44 c44 s42 s43 u0 u1 u2 u3 u4 u5 u6 u7 u8 u9 u10 u11 u12 u13 u14 u15 u16 u17 u18 u19 u20 u21 u22 u23 u24 u25 u26 u27 u28 u29 u30 u31 u32 u33 u34 u35 u36 u37 u63 u64 u65 u66 u67 u68 u69 u70 u71 u72 u73 u74 u75 u76 u77 u78 u79 hf hm hm2 hx w' v46 v48 v49 v53 v55 (h2.perm (List.perm_middle (l₁ := []) (l₂ := [(v49, []), (v53, [x]), (v55, [])])).symm)
  exact AllReady.nil

set_option maxRecDepth 100000 in
set_option maxHeartbeats 2000000 in
theorem st_0_464953 (w0 : World) (pf : Option Addr) (m cf : Nat) (x : Int) (fl : List Int) (p39 p44 : Option Addr) (n39 c39 n44 c44 : Nat) (s42 s43 u0 u1 u2 u3 u4 u5 u6 u7 u8 u9 u10 u11 u12 u13 u14 u15 u16 u17 u18 u19 u20 u21 u22 u23 u24 u25 u26 u27 u28 u29 u30 u31 u32 u33 u34 u35 u36 u37 u63 u64 u65 u66 u67 u68 u69 u70 u71 u72 u73 u74 u75 u76 u77 u78 u79 : Value) (hf : ArgC w0 pf m cf fl) (hm : 0 < m) (hm2 : m ≤ 2000) (hx : 0 ≤ x ∧ x ≤ 255) (w : World) (v46 v49 v53 : Value) (h : Inv w0 w [(v46, [x]), (v49, []), (v53, [x])]) : wpAny Tryd.prog .any cutsOps (CutsPost w0 pf m cf x fl p39 p44 n39 c39 n44 c44 s42 s43 u0 u1 u2 u3 u4 u5 u6 u7 u8 u9 u10 u11 u12 u13 u14 u15 u16 u17 u18 u19 u20 u21 u22 u23 u24 u25 u26 u27 u28 u29 u30 u31 u32 u33 u34 u35 u36 u37 u63 u64 u65 u66 u67 u68 u69 u70 u71 u72 u73 u74 u75 u76 u77 u78 u79 hf hm hm2 hx) 8 #[true, true, true, true, true, true, true, true, true, true, false, true, true, false, true, true, false, false, true, false, true, false, false, false, true] { tmps := #[u0, u1, u2, u3, u4, u5, u6, u7, u8, u9, u10, u11, u12, u13, u14, u15, u16, u17, u18, u19, u20, u21, u22, u23, u24, u25, u26, u27, u28, u29, u30, u31, u32, u33, u34, u35, u36, u37, (.slice pf m cf), (.slice p39 n39 c39), (.slice pf m cf), (.slice pf m cf), s42, s43, (.slice p44 n44 c44), (.int .u8 x), v46, (.slice pf m cf), undef, v49, (.slice pf m cf), undef, (.int .u8 x), v53, undef, undef, (.slice pf m cf), undef, (.slice pf m cf), undef, undef, undef, (.int .i64 0), u63, u64, u65, u66, u67, u68, u69, u70, u71, u72, u73, u74, u75, u76, u77, u78, u79], defers := [] } w := by
  refine wpAny_ready (rs := [10, 17]) (by kernel_rfl) (by simp) ?_
  refine AllReady.cons (o := { dst := some 48, op := Op.call { callee := Callee.builtin Builtin.append, args := #[Operand.tmp 46, Operand.tmp 47], argTypes := #[23, 23] }, type := 23, pos := "law.go:87", after := #[{ on := 8, ground := Ground.data }, { on := 9, ground := Ground.data }], guard := none }) rfl (fun K hK => ?_) ?_
  · have h' : Inv w0 w [(v46, [x]), (v49, []), (v53, [x])] := h.perm (List.perm_middle (l₁ := []) (l₂ := [(v49, []), (v53, [x])]))
    refine step_app h' rfl _ _ rfl rfl pf m cf fl rfl (hf.below h.grew) hm (by have := hf.len; simp; omega) ?_
    intro v48 w' h2
    refine hK _ _ ?_
    clear hK K
    (try simp only [Act.put, List.setIfInBounds_toArray, List.set_cons_zero, List.set_cons_succ])
    exact st_1_464953 w0 pf m cf x fl p39 p44 n39 c39 n44 c44 s42 s43 u0 u1 u2 u3 u4 u5 u6 u7 u8 u9 u10 u11 u12 u13 u14 u15 u16 u17 u18 u19 u20 u21 u22 u23 u24 u25 u26 u27 u28 u29 u30 u31 u32 u33 u34 u35 u36 u37 u63 u64 u65 u66 u67 u68 u69 u70 u71 u72 u73 u74 u75 u76 u77 u78 u79 hf hm hm2 hx w' v46 v48 v49 v53 (h2.perm (List.perm_middle (l₁ := []) (l₂ := [(v49, []), (v53, [x])])).symm)
  refine AllReady.cons (o := { dst := some 55, op := Op.buildSlice 23 0 #[], type := 23, pos := "law.go:87", after := #[], guard := none }) rfl (fun K hK => ?_) ?_
  · go_simp
    refine hK _ _ ?_
    clear hK K
    (try simp only [List.setIfInBounds_toArray, List.set_cons_zero, List.set_cons_succ])
    exact st_0_46495355 w0 pf m cf x fl p39 p44 n39 c39 n44 c44 s42 s43 u0 u1 u2 u3 u4 u5 u6 u7 u8 u9 u10 u11 u12 u13 u14 u15 u16 u17 u18 u19 u20 u21 u22 u23 u24 u25 u26 u27 u28 u29 u30 u31 u32 u33 u34 u35 u36 u37 u63 u64 u65 u66 u67 u68 u69 u70 u71 u72 u73 u74 u75 u76 u77 u78 u79 hf hm hm2 hx _ v46 v49 v53 (.slice (some ⟨w.heap.size, 0, none⟩) 0 0) ((h.new [] (by simp)).perm (List.perm_middle (l₁ := [(v46, [x]), (v49, []), (v53, [x])]) (l₂ := [])).symm)
  exact AllReady.nil

set_option maxRecDepth 100000 in
set_option maxHeartbeats 2000000 in
theorem st_0_464955 (w0 : World) (pf : Option Addr) (m cf : Nat) (x : Int) (fl : List Int) (p39 p44 : Option Addr) (n39 c39 n44 c44 : Nat) (s42 s43 u0 u1 u2 u3 u4 u5 u6 u7 u8 u9 u10 u11 u12 u13 u14 u15 u16 u17 u18 u19 u20 u21 u22 u23 u24 u25 u26 u27 u28 u29 u30 u31 u32 u33 u34 u35 u36 u37 u63 u64 u65 u66 u67 u68 u69 u70 u71 u72 u73 u74 u75 u76 u77 u78 u79 : Value) (hf : ArgC w0 pf m cf fl) (hm : 0 < m) (hm2 : m ≤ 2000) (hx : 0 ≤ x ∧ x ≤ 255) (w : World) (v46 v49 v55 : Value) (h : Inv w0 w [(v46, [x]), (v49, []), (v55, [])]) : wpAny Tryd.prog .any cutsOps (CutsPost w0 pf m cf x fl p39 p44 n39 c39 n44 c44 s42 s43 u0 u1 u2 u3 u4 u5 u6 u7 u8 u9 u10 u11 u12 u13 u14 u15 u16 u17 u18 u19 u20 u21 u22 u23 u24 u25 u26 u27 u28 u29 u30 u31 u32 u33 u34 u35 u36 u37 u63 u64 u65 u66 u67 u68 u69 u70 u71 u72 u73 u74 u75 u76 u77 u78 u79 hf hm hm2 hx) 8 #[true, true, true, true, true, true, true, true, true, true, false, true, true, false, true, false, false, true, true, false, true, false, false, false, true] { tmps := #[u0, u1, u2, u3, u4, u5, u6, u7, u8, u9, u10, u11, u12, u13, u14, u15, u16, u17, u18, u19, u20, u21, u22, u23, u24, u25, u26, u27, u28, u29, u30, u31, u32, u33, u34, u35, u36, u37, (.slice pf m cf), (.slice p39 n39 c39), (.slice pf m cf), (.slice pf m cf), s42, s43, (.slice p44 n44 c44), (.int .u8 x), v46, (.slice pf m cf), undef, v49, (.slice pf m cf), undef, (.int .u8 x), undef, undef, v55, (.slice pf m cf), undef, (.slice pf m cf), undef, undef, undef, (.int .i64 0), u63, u64, u65, u66, u67, u68, u69, u70, u71, u72, u73, u74, u75, u76, u77, u78, u79], defers := [] } w := by
  refine wpAny_ready (rs := [10, 15]) (by kernel_rfl) (by simp) ?_
  refine AllReady.cons (o := { dst := some 48, op := Op.call { callee := Callee.builtin Builtin.append, args := #[Operand.tmp 46, Operand.tmp 47], argTypes := #[23, 23] }, type := 23, pos := "law.go:87", after := #[{ on := 8, ground := Ground.data }, { on := 9, ground := Ground.data }], guard := none }) rfl (fun K hK => ?_) ?_
  · have h' : Inv w0 w [(v46, [x]), (v49, []), (v55, [])] := h.perm (List.perm_middle (l₁ := []) (l₂ := [(v49, []), (v55, [])]))
    refine step_app h' rfl _ _ rfl rfl pf m cf fl rfl (hf.below h.grew) hm (by have := hf.len; simp; omega) ?_
    intro v48 w' h2
    refine hK _ _ ?_
    clear hK K
    (try simp only [Act.put, List.setIfInBounds_toArray, List.set_cons_zero, List.set_cons_succ])
    exact st_1_464955 w0 pf m cf x fl p39 p44 n39 c39 n44 c44 s42 s43 u0 u1 u2 u3 u4 u5 u6 u7 u8 u9 u10 u11 u12 u13 u14 u15 u16 u17 u18 u19 u20 u21 u22 u23 u24 u25 u26 u27 u28 u29 u30 u31 u32 u33 u34 u35 u36 u37 u63 u64 u65 u66 u67 u68 u69 u70 u71 u72 u73 u74 u75 u76 u77 u78 u79 hf hm hm2 hx w' v46 v48 v49 v55 (h2.perm (List.perm_middle (l₁ := []) (l₂ := [(v49, []), (v55, [])])).symm)
  refine AllReady.cons (o := { dst := some 53, op := Op.buildSlice 23 1 #[(0, Operand.tmp 52)], type := 23, pos := "law.go:87", after := #[{ on := 14, ground := Ground.data }], guard := none }) rfl (fun K hK => ?_) ?_
  · go_simp
    refine hK _ _ ?_
    clear hK K
    (try simp only [List.setIfInBounds_toArray, List.set_cons_zero, List.set_cons_succ])
    exact st_0_46495355 w0 pf m cf x fl p39 p44 n39 c39 n44 c44 s42 s43 u0 u1 u2 u3 u4 u5 u6 u7 u8 u9 u10 u11 u12 u13 u14 u15 u16 u17 u18 u19 u20 u21 u22 u23 u24 u25 u26 u27 u28 u29 u30 u31 u32 u33 u34 u35 u36 u37 u63 u64 u65 u66 u67 u68 u69 u70 u71 u72 u73 u74 u75 u76 u77 u78 u79 hf hm hm2 hx _ v46 v49 (.slice (some ⟨w.heap.size, 0, none⟩) 1 1) v55 ((h.new [x] (by simp)).perm (List.perm_middle (l₁ := [(v46, [x]), (v49, [])]) (l₂ := [(v55, [])])).symm)
  exact AllReady.nil

set_option maxRecDepth 100000 in
set_option maxHeartbeats 2000000 in
theorem st_0_465355 (w0 : World) (pf : Option Addr) (m cf : Nat) (x : Int) (fl : List Int) (p39 p44 : Option Addr) (n39 c39 n44 c44 : Nat) (s42 s43 u0 u1 u2 u3 u4 u5 u6 u7 u8 u9 u10 u11 u12 u13 u14 u15 u16 u17 u18 u19 u20 u21 u22 u23 u24 u25 u26 u27 u28 u29 u30 u31 u32 u33 u34 u35 u36 u37 u63 u64 u65 u66 u67 u68 u69 u70 u71 u72 u73 u74 u75 u76 u77 u78 u79 : Value) (hf : ArgC w0 pf m cf fl) (hm : 0 < m) (hm2 : m ≤ 2000) (hx : 0 ≤ x ∧ x ≤ 255) (w : World) (v46 v53 v55 : Value) (h : Inv w0 w [(v46, [x]), (v53, [x]), (v55, [])]) : wpAny Tryd.prog .any cutsOps (CutsPost w0 pf m cf x fl p39 p44 n39 c39 n44 c44 s42 s43 u0 u1 u2 u3 u4 u5 u6 u7 u8 u9 u10 u11 u12 u13 u14 u15 u16 u17 u18 u19 u20 u21 u22 u23 u24 u25 u26 u27 u28 u29 u30 u31 u32 u33 u34 u35 u36 u37 u63 u64 u65 u66 u67 u68 u69 u70 u71 u72 u73 u74 u75 u76 u77 u78 u79 hf hm hm2 hx) 8 #[true, true, true, true, true, true, true, true, true, true, false, false, true, false, true, true, false, true, true, false, true, false, false, false, true] { tmps := #[u0, u1, u2, u3, u4, u5, u6, u7, u8, u9, u10, u11, u12, u13, u14, u15, u16, u17, u18, u19, u20, u21, u22, u23, u24, u25, u26, u27, u28, u29, u30, u31, u32, u33, u34, u35, u36, u37, (.slice pf m cf), (.slice p39 n39 c39), (.slice pf m cf), (.slice pf m cf), s42, s43, (.slice p44 n44 c44), (.int .u8 x), v46, (.slice pf m cf), undef, undef, (.slice pf m cf), undef, (.int .u8 x), v53, undef, v55, (.slice pf m cf), undef, (.slice pf m cf), undef, undef, undef, (.int .i64 0), u63, u64, u65, u66, u67, u68, u69, u70, u71, u72, u73, u74, u75, u76, u77, u78, u79], defers := [] } w := by
  refine wpAny_ready (rs := [10, 11]) (by kernel_rfl) (by simp) ?_
  refine AllReady.cons (o := { dst := some 48, op := Op.call { callee := Callee.builtin Builtin.append, args := #[Operand.tmp 46, Operand.tmp 47], argTypes := #[23, 23] }, type := 23, pos := "law.go:87", after := #[{ on := 8, ground := Ground.data }, { on := 9, ground := Ground.data }], guard := none }) rfl (fun K hK => ?_) ?_
  · have h' : Inv w0 w [(v46, [x]), (v53, [x]), (v55, [])] := h.perm (List.perm_middle (l₁ := []) (l₂ := [(v53, [x]), (v55, [])]))
    refine step_app h' rfl _ _ rfl rfl pf m cf fl rfl (hf.below h.grew) hm (by have := hf.len; simp; omega) ?_
    intro v48 w' h2
    refine hK _ _ ?_
    clear hK K
    (try simp only [Act.put, List.setIfInBounds_toArray, List.set_cons_zero, List.set_cons_succ])
    exact st_1_465355 w0 pf m cf x fl p39 p44 n39 c39 n44 c44 s42 s43 u0 u1 u2 u3 u4 u5 u6 u7 u8 u9 u10 u11 u12 u13 u14 u15 u16 u17 u18 u19 u20 u21 u22 u23 u24 u25 u26 u27 u28 u29 u30 u31 u32 u33 u34 u35 u36 u37 u63 u64 u65 u66 u67 u68 u69 u70 u71 u72 u73 u74 u75 u76 u77 u78 u79 hf hm hm2 hx w' v46 v48 v53 v55 (h2.perm (List.perm_middle (l₁ := []) (l₂ := [(v53, [x]), (v55, [])])).symm)
  refine AllReady.cons (o := { dst := some 49, op := Op.buildSlice 23 0 #[], type := 23, pos := "law.go:87", after := #[], guard := none }) rfl (fun K hK => ?_) ?_
  · go_simp
    refine hK _ _ ?_
    clear hK K
    (try simp only [List.setIfInBounds_toArray, List.set_cons_zero, List.set_cons_succ])
    exact st_0_46495355 w0 pf m cf x fl p39 p44 n39 c39 n44 c44 s42 s43 u0 u1 u2 u3 u4 u5 u6 u7 u8 u9 u10 u11 u12 u13 u14 u15 u16 u17 u18 u19 u20 u21 u22 u23 u24 u25 u26 u27 u28 u29 u30 u31 u32 u33 u34 u35 u36 u37 u63 u64 u65 u66 u67 u68 u69 u70 u71 u72 u73 u74 u75 u76 u77 u78 u79 hf hm hm2 hx _ v46 (.slice (some ⟨w.heap.size, 0, none⟩) 0 0) v53 v55 ((h.new [] (by simp)).perm (List.perm_middle (l₁ := [(v46, [x])]) (l₂ := [(v53, [x]), (v55, [])])).symm)
  exact AllReady.nil

set_option maxRecDepth 100000 in
set_option maxHeartbeats 2000000 in
theorem st_0_495355 (w0 : World) (pf : Option Addr) (m cf : Nat) (x : Int) (fl : List Int) (p39 p44 : Option Addr) (n39 c39 n44 c44 : Nat) (s42 s43 u0 u1 u2 u3 u4 u5 u6 u7 u8 u9 u10 u11 u12 u13 u14 u15 u16 u17 u18 u19 u20 u21 u22 u23 u24 u25 u26 u27 u28 u29 u30 u31 u32 u33 u34 u35 u36 u37 u63 u64 u65 u66 u67 u68 u69 u70 u71 u72 u73 u74 u75 u76 u77 u78 u79 : Value) (hf : ArgC w0 pf m cf fl) (hm : 0 < m) (hm2 : m ≤ 2000) (hx : 0 ≤ x ∧ x ≤ 255) (w : World) (v49 v53 v55 : Value) (h : Inv w0 w [(v49, []), (v53, [x]), (v55, [])]) : wpAny Tryd.prog .any cutsOps (CutsPost w0 pf m cf x fl p39 p44 n39 c39 n44 c44 s42 s43 u0 u1 u2 u3 u4 u5 u6 u7 u8 u9 u10 u11 u12 u13 u14 u15 u16 u17 u18 u19 u20 u21 u22 u23 u24 u25 u26 u27 u28 u29 u30 u31 u32 u33 u34 u35 u36 u37 u63 u64 u65 u66 u67 u68 u69 u70 u71 u72 u73 u74 u75 u76 u77 u78 u79 hf hm hm2 hx) 8 #[true, true, true, true, true, true, true, true, false, true, false, true, true, false, true, true, false, true, true, false, true, false, false, false, true] { tmps := #[u0, u1, u2, u3, u4, u5, u6, u7, u8, u9, u10, u11, u12, u13, u14, u15, u16, u17, u18, u19, u20, u21, u22, u23, u24, u25, u26, u27, u28, u29, u30, u31, u32, u33, u34, u35, u36, u37, (.slice pf m cf), (.slice p39 n39 c39), (.slice pf m cf), (.slice pf m cf), s42, s43, (.slice p44 n44 c44), (.int .u8 x), undef, (.slice pf m cf), undef, v49, (.slice pf m cf), undef, (.int .u8 x), v53, undef, v55, (.slice pf m cf), undef, (.slice pf m cf), undef, undef, undef, (.int .i64 0), u63, u64, u65, u66, u67, u68, u69, u70, u71, u72, u73, u74, u75, u76, u77, u78, u79], defers := [] } w := by
  refine wpAny_ready (rs := [8]) (by kernel_rfl) (by simp) ?_
  refine AllReady.cons (o := { dst := some 46, op := Op.buildSlice 23 1 #[(0, Operand.tmp 45)], type := 23, pos := "law.go:87", after := #[{ on := 7, ground := Ground.data }], guard := none }) rfl (fun K hK => ?_) ?_
  · go_simp
    refine hK _ _ ?_
    clear hK K
    (try simp only [List.setIfInBounds_toArray, List.set_cons_zero, List.set_cons_succ])
    exact st_0_46495355 w0 pf m cf x fl p39 p44 n39 c39 n44 c44 s42 s43 u0 u1 u2 u3 u4 u5 u6 u7 u8 u9 u10 u11 u12 u13 u14 u15 u16 u17 u18 u19 u20 u21 u22 u23 u24 u25 u26 u27 u28 u29 u30 u31 u32 u33 u34 u35 u36 u37 u63 u64 u65 u66 u67 u68 u69 u70 u71 u72 u73 u74 u75 u76 u77 u78 u79 hf hm hm2 hx _ (.slice (some ⟨w.heap.size, 0, none⟩) 1 1) v49 v53 v55 ((h.new [x] (by simp)).perm (List.perm_middle (l₁ := []) (l₂ := [(v49, []), (v53, [x]), (v55, [])])).symm)
  exact AllReady.nil

set_option maxRecDepth 100000 in
set_option maxHeartbeats 2000000 in
theorem st_0_4649 (w0 : World) (pf : Option Addr) (m cf : Nat) (x : Int) (fl : List Int) (p39 p44 : Option Addr) (n39 c39 n44 c44 : Nat) (s42 s43 u0 u1 u2 u3 u4 u5 u6 u7 u8 u9 u10 u11 u12 u13 u14 u15 u16 u17 u18 u19 u20 u21 u22 u23 u24 u25 u26 u27 u28 u29 u30 u31 u32 u33 u34 u35 u36 u37 u63 u64 u65 u66 u67 u68 u69 u70 u71 u72 u73 u74 u75 u76 u77 u78 u79 : Value) (hf : ArgC w0 pf m cf fl) (hm : 0 < m) (hm2 : m ≤ 2000) (hx : 0 ≤ x ∧ x ≤ 255) (w : World) (v46 v49 : Value) (h : Inv w0 w [(v46, [x]), (v49, [])]) : wpAny Tryd.prog .any cutsOps (CutsPost w0 pf m cf x fl p39 p44 n39 c39 n44 c44 s42 s43 u0 u1 u2 u3 u4 u5 u6 u7 u8 u9 u10 u11 u12 u13 u14 u15 u16 u17 u18 u19 u20 u21 u22 u23 u24 u25 u26 u27 u28 u29 u30 u31 u32 u33 u34 u35 u36 u37 u63 u64 u65 u66 u67 u68 u69 u70 u71 u72 u73 u74 u75 u76 u77 u78 u79 hf hm hm2 hx) 9 #[true, true, true, true, true, true, true, true, true, true, false, true, true, false, true, false, false, false, true, false, true, false, false, false, true] { tmps := #[u0, u1, u2, u3, u4, u5, u6, u7, u8, u9, u10, u11, u12, u13, u14, u15, u16, u17, u18, u19, u20, u21, u22, u23, u24, u25, u26, u27, u28, u29, u30, u31, u32, u33, u34, u35, u36, u37, (.slice pf m cf), (.slice p39 n39 c39), (.slice pf m cf), (.slice pf m cf), s42, s43, (.slice p44 n44 c44), (.int .u8 x), v46, (.slice pf m cf), undef, v49, (.slice pf m cf), undef, (.int .u8 x), undef, undef, undef, (.slice pf m cf), undef, (.slice pf m cf), undef, undef, undef, (.int .i64 0), u63, u64, u65, u66, u67, u68, u69, u70, u71, u72, u73, u74, u75, u76, u77, u78, u79], defers := [] } w := by
  refine wpAny_ready (rs := [10, 15, 17]) (by kernel_rfl) (by simp) ?_
  refine AllReady.cons (o := { dst := some 48, op := Op.call { callee := Callee.builtin Builtin.append, args := #[Operand.tmp 46, Operand.tmp 47], argTypes := #[23, 23] }, type := 23, pos := "law.go:87", after := #[{ on := 8, ground := Ground.data }, { on := 9, ground := Ground.data }], guard := none }) rfl (fun K hK => ?_) ?_
  · have h' : Inv w0 w [(v46, [x]), (v49, [])] := h.perm (List.perm_middle (l₁ := []) (l₂ := [(v49, [])]))
    refine step_app h' rfl _ _ rfl rfl pf m cf fl rfl (hf.below h.grew) hm (by have := hf.len; simp; omega) ?_
    intro v48 w' h2
    refine hK _ _ ?_
    clear hK K
    (try simp only [Act.put, List.setIfInBounds_toArray, List.set_cons_zero, List.set_cons_succ])
    exact st_1_4649 w0 pf m cf x fl p39 p44 n39 c39 n44 c44 s42 s43 u0 u1 u2 u3 u4 u5 u6 u7 u8 u9 u10 u11 u12 u13 u14 u15 u16 u17 u18 u19 u20 u21 u22 u23 u24 u25 u26 u27 u28 u29 u30 u31 u32 u33 u34 u35 u36 u37 u63 u64 u65 u66 u67 u68 u69 u70 u71 u72 u73 u74 u75 u76 u77 u78 u79 hf hm hm2 hx w' v46 v48 v49 (h2.perm (List.perm_middle (l₁ := []) (l₂ := [(v49, [])])).symm)
  refine AllReady.cons (o := { dst := some 53, op := Op.buildSlice 23 1 #[(0, Operand.tmp 52)], type := 23, pos := "law.go:87", after := #[{ on := 14, ground := Ground.data }], guard := none }) rfl (fun K hK => ?_) ?_
  · go_simp
    refine hK _ _ ?_
    clear hK K
    (try simp only [List.setIfInBounds_toArray, List.set_cons_zero, List.set_cons_succ])
    exact st_0_464953 w0 pf m cf x fl p39 p44 n39 c39 n44 c44 s42 s43 u0 u1 u2 u3 u4 u5 u6 u7 u8 u9 u10 u11 u12 u13 u14 u15 u16 u17 u18 u19 u20 u21 u22 u23 u24 u25 u26 u27 u28 u29 u30 u31 u32 u33 u34 u35 u36 u37 u63 u64 u65 u66 u67 u68 u69 u70 u71 u72 u73 u74 u75 u76 u77 u78 u79 hf hm hm2 hx _ v46 v49 (.slice (some ⟨w.heap.size, 0, none⟩) 1 1) ((h.new [x] (by simp)).perm (List.perm_middle (l₁ := [(v46, [x]), (v49, [])]) (l₂ := [])).symm)
  refine AllReady.cons (o := { dst := some 55, op := Op.buildSlice 23 0 #[], type := 23, pos := "law.go:87", after := #[], guard := none }) rfl (fun K hK => ?_) ?_
  · go_simp
    refine hK _ _ ?_
    clear hK K
    (try simp only [List.setIfInBounds_toArray, List.set_cons_zero, List.set_cons_succ])
    exact st_0_464955 w0 pf m cf x fl p39 p44 n39 c39 n44 c44 s42 s43 u0 u1 u2 u3 u4 u5 u6 u7 u8 u9 u10 u11 u12 u13 u14 u15 u16 u17 u18 u19 u20 u21 u22 u23 u24 u25 u26 u27 u28 u29 u30 u31 u32 u33 u34 u35 u36 u37 u63 u64 u65 u66 u67 u68 u69 u70 u71 u72 u73 u74 u75 u76 u77 u78 u79 hf hm hm2 hx _ v46 v49 (.slice (some ⟨w.heap.size, 0, none⟩) 0 0) ((h.new [] (by simp)).perm (List.perm_middle (l₁ := [(v46, [x]), (v49, [])]) (l₂ := [])).symm)
  exact AllReady.nil

set_option maxRecDepth 100000 in
set_option maxHeartbeats 2000000 in
theorem st_0_4653 (w0 : World) (pf : Option Addr) (m cf : Nat) (x : Int) (fl : List Int) (p39 p44 : Option Addr) (n39 c39 n44 c44 : Nat) (s42 s43 u0 u1 u2 u3 u4 u5 u6 u7 u8 u9 u10 u11 u12 u13 u14 u15 u16 u17 u18 u19 u20 u21 u22 u23 u24 u25 u26 u27 u28 u29 u30 u31 u32 u33 u34 u35 u36 u37 u63 u64 u65 u66 u67 u68 u69 u70 u71 u72 u73 u74 u75 u76 u77 u78 u79 : Value) (hf : ArgC w0 pf m cf fl) (hm : 0 < m) (hm2 : m ≤ 2000) (hx : 0 ≤ x ∧ x ≤ 255) (w : World) (v46 v53 : Value) (h : Inv w0 w [(v46, [x]), (v53, [x])]) : wpAny Tryd.prog .any cutsOps (CutsPost w0 pf m cf x fl p39 p44 n39 c39 n44 c44 s42 s43 u0 u1 u2 u3 u4 u5 u6 u7 u8 u9 u10 u11 u12 u13 u14 u15 u16 u17 u18 u19 u20 u21 u22 u23 u24 u25 u26 u27 u28 u29 u30 u31 u32 u33 u34 u35 u36 u37 u63 u64 u65 u66 u67 u68 u69 u70 u71 u72 u73 u74 u75 u76 u77 u78 u79 hf hm hm2 hx) 9 #[true, true, true, true, true, true, true, true, true, true, false, false, true, false, true, true, false, false, true, false, true, false, false, false, true] { tmps := #[u0, u1, u2, u3, u4, u5, u6, u7, u8, u9, u10, u11, u12, u13, u14, u15, u16, u17, u18, u19, u20, u21, u22, u23, u24, u25, u26, u27, u28, u29, u30, u31, u32, u33, u34, u35, u36, u37, (.slice pf m cf), (.slice p39 n39 c39), (.slice pf m cf), (.slice pf m cf), s42, s43, (.slice p44 n44 c44), (.int .u8 x), v46, (.slice pf m cf), undef, undef, (.slice pf m cf), undef, (.int .u8 x), v53, undef, undef, (.slice pf m cf), undef, (.slice pf m cf), undef, undef, undef, (.int .i64 0), u63, u64, u65, u66, u67, u68, u69, u70, u71, u72, u73, u74, u75, u76, u77, u78, u79], defers := [] } w := by
  refine wpAny_ready (rs := [10, 11, 17]) (by kernel_rfl) (by simp) ?_
  refine AllReady.cons (o := { dst := some 48, op := Op.call { callee := Callee.builtin Builtin.append, args := #[Operand.tmp 46, Operand.tmp 47], argTypes := #[23, 23] }, type := 23, pos := "law.go:87", after := #[{ on := 8, ground := Ground.data }, { on := 9, ground := Ground.data }], guard := none }) rfl (fun K hK => ?_) ?_
  · have h' : Inv w0 w [(v46, [x]), (v53, [x])] := h.perm (List.perm_middle (l₁ := []) (l₂ := [(v53, [x])]))
    refine step_app h' rfl _ _ rfl rfl pf m cf fl rfl (hf.below h.grew) hm (by have := hf.len; simp; omega) ?_
    intro v48 w' h2
    refine hK _ _ ?_
    clear hK K
    (try simp only [Act.put, List.setIfInBounds_toArray, List.set_cons_zero, List.set_cons_succ])
    exact st_1_4653 w0 pf m cf x fl p39 p44 n39 c39 n44 c44 s42 s43 u0 u1 u2 u3 u4 u5 u6 u7 u8 u9 u10 u11 u12 u13 u14 u15 u16 u17 u18 u19 u20 u21 u22 u23 u24 u25 u26 u27 u28 u29 u30 u31 u32 u33 u34 u35 u36 u37 u63 u64 u65 u66 u67 u68 u69 u70 u71 u72 u73 u74 u75 u76 u77 u78 u79 hf hm hm2 hx w' v46 v48 v53 (h2.perm (List.perm_middle (l₁ := []) (l₂ := [(v53, [x])])).symm)
  refine AllReady.cons (o := { dst := some 49, op := Op.buildSlice 23 0 #[], type := 23, pos := "law.go:87", after := #[], guard := none }) rfl (fun K hK => ?_) ?_
  · go_simp
    refine hK _ _ ?_
    clear hK K
    (try simp only [List.setIfInBounds_toArray, List.set_cons_zero, List.set_cons_succ])
    exact st_0_464953 w0 pf m cf x fl p39 p44 n39 c39 n44 c44 s42 s43 u0 u1 u2 u3 u4 u5 u6 u7 u8 u9 u10 u11 u12 u13 u14 u15 u16 u17 u18 u19 u20 u21 u22 u23 u24 u25 u26 u27 u28 u29 u30 u31 u32 u33 u34 u35 u36 u37 u63 u64 u65 u66 u67 u68 u69 u70 u71 u72 u73 u74 u75 u76 u77 u78 u79 hf hm hm2 hx _ v46 (.slice (some ⟨w.heap.size, 0, none⟩) 0 0) v53 ((h.new [] (by simp)).perm (List.perm_middle (l₁ := [(v46, [x])]) (l₂ := [(v53, [x])])).symm)
  refine AllReady.cons (o := { dst := some 55, op := Op.buildSlice 23 0 #[], type := 23, pos := "law.go:87", after := #[], guard := none }) rfl (fun K hK => ?_) ?_
  · go_simp
    refine hK _ _ ?_
    clear hK K
    (try simp only [List.setIfInBounds_toArray, List.set_cons_zero, List.set_cons_succ])
    exact st_0_465355 w0 pf m cf x fl p39 p44 n39 c39 n44 c44 s42 s43 u0 u1 u2 u3 u4 u5 u6 u7 u8 u9 u10 u11 u12 u13 u14 u15 u16 u17 u18 u19 u20 u21 u22 u23 u24 u25 u26 u27 u28 u29 u30 u31 u32 u33 u34 u35 u36 u37 u63 u64 u65 u66 u67 u68 u69 u70 u71 u72 u73 u74 u75 u76 u77 u78 u79 hf hm hm2 hx _ v46 v53 (.slice (some ⟨w.heap.size, 0, none⟩) 0 0) ((h.new [] (by simp)).perm (List.perm_middle (l₁ := [(v46, [x]), (v53, [x])]) (l₂ := [])).symm)
  exact AllReady.nil

set_option maxRecDepth 100000 in
set_option maxHeartbeats 2000000 in
theorem st_0_4655 (w0 : World) (pf : Option Addr) (m cf : Nat) (x : Int) (fl : List Int) (p39 p44 : Option Addr) (n39 c39 n44 c44 : Nat) (s42 s43 u0 u1 u2 u3 u4 u5 u6 u7 u8 u9 u10 u11 u12 u13 u14 u15 u16 u17 u18 u19 u20 u21 u22 u23 u24 u25 u26 u27 u28 u29 u30 u31 u32 u33 u34 u35 u36 u37 u63 u64 u65 u66 u67 u68 u69 u70 u71 u72 u73 u74 u75 u76 u77 u78 u79 : Value) (hf : ArgC w0 pf m cf fl) (hm : 0 < m) (hm2 : m ≤ 2000) (hx : 0 ≤ x ∧ x ≤ 255) (w : World) (v46 v55 : Value) (h : Inv w0 w [(v46, [x]), (v55, [])]) : wpAny Tryd.prog .any cutsOps (CutsPost w0 pf m cf x fl p39 p44 n39 c39 n44 c44 s42 s43 u0 u1 u2 u3 u4 u5 u6 u7 u8 u9 u10 u11 u12 u13 u14 u15 u16 u17 u18 u19 u20 u21 u22 u23 u24 u25 u26 u27 u28 u29 u30 u31 u32 u33 u34 u35 u36 u37 u63 u64 u65 u66 u67 u68 u69 u70 u71 u72 u73 u74 u75 u76 u77 u78 u79 hf hm hm2 hx) 9 #[true, true, true, true, true, true, true, true, true, true, false, false, true, false, true, false, false, true, true, false, true, false, false, false, true] { tmps := #[u0, u1, u2, u3, u4, u5, u6, u7, u8, u9, u10, u11, u12, u13, u14, u15, u16, u17, u18, u19, u20, u21, u22, u23, u24, u25, u26, u27, u28, u29, u30, u31, u32, u33, u34, u35, u36, u37, (.slice pf m cf), (.slice p39 n39 c39), (.slice pf m cf), (.slice pf m cf), s42, s43, (.slice p44 n44 c44), (.int .u8 x), v46, (.slice pf m cf), undef, undef, (.slice pf m cf), undef, (.int .u8 x), undef, undef, v55, (.slice pf m cf), undef, (.slice pf m cf), undef, undef, undef, (.int .i64 0), u63, u64, u65, u66, u67, u68, u69, u70, u71, u72, u73, u74, u75, u76, u77, u78, u79], defers := [] } w := by
  refine wpAny_ready (rs := [10, 11, 15]) (by kernel_rfl) (by simp) ?_
  refine AllReady.cons (o := { dst := some 48, op := Op.call { callee := Callee.builtin Builtin.append, args := #[Operand.tmp 46, Operand.tmp 47], argTypes := #[23, 23] }, type := 23, pos := "law.go:87", after := #[{ on := 8, ground := Ground.data }, { on := 9, ground := Ground.data }], guard := none }) rfl (fun K hK => ?_) ?_
  · have h' : Inv w0 w [(v46, [x]), (v55, [])] := h.perm (List.perm_middle (l₁ := []) (l₂ := [(v55, [])]))
    refine step_app h' rfl _ _ rfl rfl pf m cf fl rfl (hf.below h.grew) hm (by have := hf.len; simp; omega) ?_
    intro v48 w' h2
    refine hK _ _ ?_
    clear hK K
    (try simp only [Act.put, List.setIfInBounds_toArray, List.set_cons_zero, List.set_cons_succ])
    exact st_1_4655 w0 pf m cf x fl p39 p44 n39 c39 n44 c44 s42 s43 u0 u1 u2 u3 u4 u5 u6 u7 u8 u9 u10 u11 u12 u13 u14 u15 u16 u17 u18 u19 u20 u21 u22 u23 u24 u25 u26 u27 u28 u29 u30 u31 u32 u33 u34 u35 u36 u37 u63 u64 u65 u66 u67 u68 u69 u70 u71 u72 u73 u74 u75 u76 u77 u78 u79 hf hm hm2 hx w' v46 v48 v55 (h2.perm (List.perm_middle (l₁ := []) (l₂ := [(v55, [])])).symm)
  refine AllReady.cons (o := { dst := some 49, op := Op.buildSlice 23 0 #[], type := 23, pos := "law.go:87", after := #[], guard := none }) rfl (fun K hK => ?_) ?_
  · go_simp
    refine hK _ _ ?_
    clear hK K
    (try simp only [List.setIfInBounds_toArray, List.set_cons_zero, List.set_cons_succ])
    exact st_0_464955 w0 pf m cf x fl p39 p44 n39 c39 n44 c44 s42 s43 u0 u1 u2 u3 u4 u5 u6 u7 u8 u9 u10 u11 u12 u13 u14 u15 u16 u17 u18 u19 u20 u21 u22 u23 u24 u25 u26 u27 u28 u29 u30 u31 u32 u33 u34 u35 u36 u37 u63 u64 u65 u66 u67 u68 u69 u70 u71 u72 u73 u74 u75 u76 u77 u78 u79 hf hm hm2 hx _ v46 (.slice (some ⟨w.heap.size, 0, none⟩) 0 0) v55 ((h.new [] (by simp)).perm (List.perm_middle (l₁ := [(v46, [x])]) (l₂ := [(v55, [])])).symm)
  refine AllReady.cons (o := { dst := some 53, op := Op.buildSlice 23 1 #[(0, Operand.tmp 52)], type := 23, pos := "law.go:87", after := #[{ on := 14, ground := Ground.data }], guard := none }) rfl (fun K hK => ?_) ?_
  · go_simp
    refine hK _ _ ?_
    clear hK K
    (try simp only [List.setIfInBounds_toArray, List.set_cons_zero, List.set_cons_succ])
    exact st_0_465355 w0 pf m cf x fl p39 p44 n39 c39 n44 c44 s42 s43 u0 u1 u2 u3 u4 u5 u6 u7 u8 u9 u10 u11 u12 u13 u14 u15 u16 u17 u18 u19 u20 u21 u22 u23 u24 u25 u26 u27 u28 u29 u30 u31 u32 u33 u34 u35 u36 u37 u63 u64 u65 u66 u67 u68 u69 u70 u71 u72 u73 u74 u75 u76 u77 u78 u79 hf hm hm2 hx _ v46 (.slice (some ⟨w.heap.size, 0, none⟩) 1 1) v55 ((h.new [x] (by simp)).perm (List.perm_middle (l₁ := [(v46, [x])]) (l₂ := [(v55, [])])).symm)
  exact AllReady.nil

set_option maxRecDepth 100000 in
set_option maxHeartbeats 2000000 in
theorem st_0_4953 (w0 : World) (pf : Option Addr) (m cf : Nat) (x : Int) (fl : List Int) (p39 p44 : Option Addr) (n39 c39 n44 c44 : Nat) (s42 s43 u0 u1 u2 u3 u4 u5 u6 u7 u8 u9 u10 u11 u12 u13 u14 u15 u16 u17 u18 u19 u20 u21 u22 u23 u24 u25 u26 u27 u28 u29 u30 u31 u32 u33 u34 u35 u36 u37 u63 u64 u65 u66 u67 u68 u69 u70 u71 u72 u73 u74 u75 u76 u77 u78 u79 : Value) (hf : ArgC w0 pf m cf fl) (hm : 0 < m) (hm2 : m ≤ 2000) (hx : 0 ≤ x ∧ x ≤ 255) (w : World) (v49 v53 : Value) (h : Inv w0 w [(v49, []), (v53, [x])]) : wpAny Tryd.prog .any cutsOps (CutsPost w0 pf m cf x fl p39 p44 n39 c39 n44 c44 s42 s43 u0 u1 u2 u3 u4 u5 u6 u7 u8 u9 u10 u11 u12 u13 u14 u15 u16 u17 u18 u19 u20 u21 u22 u23 u24 u25 u26 u27 u28 u29 u30 u31 u32 u33 u34 u35 u36 u37 u63 u64 u65 u66 u67 u68 u69 u70 u71 u72 u73 u74 u75 u76 u77 u78 u79 hf hm hm2 hx) 9 #[true, true, true, true, true, true, true, true, false, true, false, true, true, false, true, true, false, false, true, false, true, false, false, false, true] { tmps := #[u0, u1, u2, u3, u4, u5, u6, u7, u8, u9, u10, u11, u12, u13, u14, u15, u16, u17, u18, u19, u20, u21, u22, u23, u24, u25, u26, u27, u28, u29, u30, u31, u32, u33, u34, u35, u36, u37, (.slice pf m cf), (.slice p39 n39 c39), (.slice pf m cf), (.slice pf m cf), s42, s43, (.slice p44 n44 c44), (.int .u8 x), undef, (.slice pf m cf), undef, v49, (.slice pf m cf), undef, (.int .u8 x), v53, undef, undef, (.slice pf m cf), undef, (.slice pf m cf), undef, undef, undef, (.int .i64 0), u63, u64, u65, u66, u67, u68, u69, u70, u71, u72, u73, u74, u75, u76, u77, u78, u79], defers := [] } w := by
  refine wpAny_ready (rs := [8, 17]) (by kernel_rfl) (by simp) ?_
  refine AllReady.cons (o := { dst := some 46, op := Op.buildSlice 23 1 #[(0, Operand.tmp 45)], type := 23, pos := "law.go:87", after := #[{ on := 7, ground := Ground.data }], guard := none }) rfl (fun K hK => ?_) ?_
  · go_simp
    refine hK _ _ ?_
    clear hK K
    (try simp only [List.setIfInBounds_toArray, List.set_cons_zero, List.set_cons_succ])
    exact st_0_464953 w0 pf m cf x fl p39 p44 n39 c39 n44 c44 s42 s43 u0 u1 u2 u3 u4 u5 u6 u7 u8 u9 u10 u11 u12 u13 u14 u15 u16 u17 u18 u19 u20 u21 u22 u23 u24 u25 u26 u27 u28 u29 u30 u31 u32 u33 u34 u35 u36 u37 u63 u64 u65 u66 u67 u68 u69 u70 u71 u72 u73 u74 u75 u76 u77 u78 u79 hf hm hm2 hx _ (.slice (some ⟨w.heap.size, 0, none⟩) 1 1) v49 v53 ((h.new [x] (by simp)).perm (List.perm_middle (l₁ := []) (l₂ := [(v49, []), (v53, [x])])).symm)
  refine AllReady.cons (o := { dst := some 55, op := Op.buildSlice 23 0 #[], type := 23, pos := "law.go:87", after := #[], guard := none }) rfl (fun K hK => ?_) ?_
  · go_simp
    refine hK _ _ ?_
    clear hK K
    (try simp only [List.setIfInBounds_toArray, List.set_cons_zero, List.set_cons_succ])
    exact st_0_495355 w0 pf m cf x fl p39 p44 n39 c39 n44 c44 s42 s43 u0 u1 u2 u3 u4 u5 u6 u7 u8 u9 u10 u11 u12 u13 u14 u15 u16 u17 u18 u19 u20 u21 u22 u23 u24 u25 u26 u27 u28 u29 u30 u31 u32 u33 u34 u35 u36 u37 u63 u64 u65 u66 u67 u68 u69 u70 u71 u72 u73 u74 u75 u76 u77 u78 u79 hf hm hm2 hx _ v49 v53 (.slice (some ⟨w.heap.size, 0, none⟩) 0 0) ((h.new [] (by simp)).perm (List.perm_middle (l₁ := [(v49, []), (v53, [x])]) (l₂ := [])).symm)
  exact AllReady.nil

set_option maxRecDepth 100000 in
set_option maxHeartbeats 2000000 in
theorem st_0_4955 (w0 : World) (pf : Option Addr) (m cf : Nat) (x : Int) (fl : List Int) (p39 p44 : Option Addr) (n39 c39 n44 c44 : Nat) (s42 s43 u0 u1 u2 u3 u4 u5 u6 u7 u8 u9 u10 u11 u12 u13 u14 u15 u16 u17 u18 u19 u20 u21 u22 u23 u24 u25 u26 u27 u28 u29 u30 u31 u32 u33 u34 u35 u36 u37 u63 u64 u65 u66 u67 u68 u69 u70 u71 u72 u73 u74 u75 u76 u77 u78 u79 : Value) (hf : ArgC w0 pf m cf fl) (hm : 0 < m) (hm2 : m ≤ 2000) (hx : 0 ≤ x ∧ x ≤ 255) (w : World) (v49 v55 : Value) (h : Inv w0 w [(v49, []), (v55, [])]) : wpAny Tryd.prog .any cutsOps (CutsPost w0 pf m cf x fl p39 p44 n39 c39 n44 c44 s42 s43 u0 u1 u2 u3 u4 u5 u6 u7 u8 u9 u10 u11 u12 u13 u14 u15 u16 u17 u18 u19 u20 u21 u22 u23 u24 u25 u26 u27 u28 u29 u30 u31 u32 u33 u34 u35 u36 u37 u63 u64 u65 u66 u67 u68 u69 u70 u71 u72 u73 u74 u75 u76 u77 u78 u79 hf hm hm2 hx) 9 #[true, true, true, true, true, true, true, true, false, true, false, true, true, false, true, false, false, true, true, false, true, false, false, false, true] { tmps := #[u0, u1, u2, u3, u4, u5, u6, u7, u8, u9, u10, u11, u12, u13, u14, u15, u16, u17, u18, u19, u20, u21, u22, u23, u24, u25, u26, u27, u28, u29, u30, u31, u32, u33, u34, u35, u36, u37, (.slice pf m cf), (.slice p39 n39 c39), (.slice pf m cf), (.slice pf m cf), s42, s43, (.slice p44 n44 c44), (.int .u8 x), undef, (.slice pf m cf), undef, v49, (.slice pf m cf), undef, (.int .u8 x), undef, undef, v55, (.slice pf m cf), undef, (.slice pf m cf), undef, undef, undef, (.int .i64 0), u63, u64, u65, u66, u67, u68, u69, u70, u71, u72, u73, u74, u75, u76, u77, u78, u79], defers := [] } w := by
  refine wpAny_ready (rs := [8, 15]) (by kernel_rfl) (by simp) ?_
  refine AllReady.cons (o := { dst := some 46, op := Op.buildSlice 23 1 #[(0, Operand.tmp 45)], type := 23, pos := "law.go:87", after := #[{ on := 7, ground := Ground.data }], guard := none }) rfl (fun K hK => ?_) ?_
  · go_simp
    refine hK _ _ ?_
    clear hK K
    (try simp only [List.setIfInBounds_toArray, List.set_cons_zero, List.set_cons_succ])
    exact st_0_464955 w0 pf m cf x fl p39 p44 n39 c39 n44 c44 s42 s43 u0 u1 u2 u3 u4 u5 u6 u7 u8 u9 u10 u11 u12 u13 u14 u15 u16 u17 u18 u19 u20 u21 u22 u23 u24 u25 u26 u27 u28 u29 u30 u31 u32 u33 u34 u35 u36 u37 u63 u64 u65 u66 u67 u68 u69 u70 u71 u72 u73 u74 u75 u76 u77 u78 u79 hf hm hm2 hx _ (.slice (some ⟨w.heap.size, 0, none⟩) 1 1) v49 v55 ((h.new [x] (by simp)).perm (List.perm_middle (l₁ := []) (l₂ := [(v49, []), (v55, [])])).symm)
  refine AllReady.cons (o := { dst := some 53, op := Op.buildSlice 23 1 #[(0, Operand.tmp 52)], type := 23, pos := "law.go:87", after := #[{ on := 14, ground := Ground.data }], guard := none }) rfl (fun K hK => ?_) ?_
  · go_simp
    refine hK _ _ ?_
    clear hK K
    (try simp only [List.setIfInBounds_toArray, List.set_cons_zero, List.set_cons_succ])
    exact st_0_495355 w0 pf m cf x fl p39 p44 n39 c39 n44 c44 s42 s43 u0 u1 u2 u3 u4 u5 u6 u7 u8 u9 u10 u11 u12 u13 u14 u15 u16 u17 u18 u19 u20 u21 u22 u23 u24 u25 u26 u27 u28 u29 u30 u31 u32 u33 u34 u35 u36 u37 u63 u64 u65 u66 u67 u68 u69 u70 u71 u72 u73 u74 u75 u76 u77 u78 u79 hf hm hm2 hx _ v49 (.slice (some ⟨w.heap.size, 0, none⟩) 1 1) v55 ((h.new [x] (by simp)).perm (List.perm_middle (l₁ := [(v49, [])]) (l₂ := [(v55, [])])).symm)
  exact AllReady.nil

set_option maxRecDepth 100000 in
set_option maxHeartbeats 2000000 in
theorem st_0_5355 (w0 : World) (pf : Option Addr) (m cf : Nat) (x : Int) (fl : List Int) (p39 p44 : Option Addr) (n39 c39 n44 c44 : Nat) (s42 s43 u0 u1 u2 u3 u4 u5 u6 u7 u8 u9 u10 u11 u12 u13 u14 u15 u16 u17 u18 u19 u20 u21 u22 u23 u24 u25 u26 u27 u28 u29 u30 u31 u32 u33 u34 u35 u36 u37 u63 u64 u65 u66 u67 u68 u69 u70 u71 u72 u73 u74 u75 u76 u77 u78 u79 : Value) (hf : ArgC w0 pf m cf fl) (hm : 0 < m) (hm2 : m ≤ 2000) (hx : 0 ≤ x ∧ x ≤ 255) (w : World) (v53 v55 : Value) (h : Inv w0 w [(v53, [x]), (v55, [])]) : wpAny Tryd.prog .any cutsOps (CutsPost w0 pf m cf x fl p39 p44 n39 c39 n44 c44 s42 s43 u0 u1 u2 u3 u4 u5 u6 u7 u8 u9 u10 u11 u12 u13 u14 u15 u16 u17 u18 u19 u20 u21 u22 u23 u24 u25 u26 u27 u28 u29 u30 u31 u32 u33 u34 u35 u36 u37 u63 u64 u65 u66 u67 u68 u69 u70 u71 u72 u73 u74 u75 u76 u77 u78 u79 hf hm hm2 hx) 9 #[true, true, true, true, true, true, true, true, false, true, false, false, true, false, true, true, false, true, true, false, true, false, false, false, true] { tmps := #[u0, u1, u2, u3, u4, u5, u6, u7, u8, u9, u10, u11, u12, u13, u14, u15, u16, u17, u18, u19, u20, u21, u22, u23, u24, u25, u26, u27, u28, u29, u30, u31, u32, u33, u34, u35, u36, u37, (.slice pf m cf), (.slice p39 n39 c39), (.slice pf m cf), (.slice pf m cf), s42, s43, (.slice p44 n44 c44), (.int .u8 x), undef, (.slice pf m cf), undef, undef, (.slice pf m cf), undef, (.int .u8 x), v53, undef, v55, (.slice pf m cf), undef, (.slice pf m cf), undef, undef, undef, (.int .i64 0), u63, u64, u65, u66, u67, u68, u69, u70, u71, u72, u73, u74, u75, u76, u77, u78, u79], defers := [] } w := by
  refine wpAny_ready (rs := [8, 11]) (by kernel_rfl) (by simp) ?_
  refine AllReady.cons (o := { dst := some 46, op := Op.buildSlice 23 1 #[(0, Operand.tmp 45)], type := 23, pos := "law.go:87", after := #[{ on := 7, ground := Ground.data }], guard := none }) rfl (fun K hK => ?_) ?_
  · go_simp
    refine hK _ _ ?_
    clear hK K
    (try simp only [List.setIfInBounds_toArray, List.set_cons_zero, List.set_cons_succ])
    exact st_0_465355 w0 pf m cf x fl p39 p44 n39 c39 n44 c44 s42 s43 u0 u1 u2 u3 u4 u5 u6 u7 u8 u9 u10 u11 u12 u13 u14 u15 u16 u17 u18 u19 u20 u21 u22 u23 u24 u25 u26 u27 u28 u29 u30 u31 u32 u33 u34 u35 u36 u37 u63 u64 u65 u66 u67 u68 u69 u70 u71 u72 u73 u74 u75 u76 u77 u78 u79 hf hm hm2 hx _ (.slice (some ⟨w.heap.size, 0, none⟩) 1 1) v53 v55 ((h.new [x] (by simp)).perm (List.perm_middle (l₁ := []) (l₂ := [(v53, [x]), (v55, [])])).symm)
  refine AllReady.cons (o := { dst := some 49, op := Op.buildSlice 23 0 #[], type := 23, pos := "law.go:87", after := #[], guard := none }) rfl (fun K hK => ?_) ?_
  · go_simp
    refine hK _ _ ?_
    clear hK K
    (try simp only [List.setIfInBounds_toArray, List.set_cons_zero, List.set_cons_succ])
    exact st_0_495355 w0 pf m cf x fl p39 p44 n39 c39 n44 c44 s42 s43 u0 u1 u2 u3 u4 u5 u6 u7 u8 u9 u10 u11 u12 u13 u14 u15 u16 u17 u18 u19 u20 u21 u22 u23 u24 u25 u26 u27 u28 u29 u30 u31 u32 u33 u34 u35 u36 u37 u63 u64 u65 u66 u67 u68 u69 u70 u71 u72 u73 u74 u75 u76 u77 u78 u79 hf hm hm2 hx _ (.slice (some ⟨w.heap.size, 0, none⟩) 0 0) v53 v55 ((h.new [] (by simp)).perm (List.perm_middle (l₁ := []) (l₂ := [(v53, [x]), (v55, [])])).symm)
  exact AllReady.nil

set_option maxRecDepth 100000 in
set_option maxHeartbeats 2000000 in
theorem st_0_46 (w0 : World) (pf : Option Addr) (m cf : Nat) (x : Int) (fl : List Int) (p39 p44 : Option Addr) (n39 c39 n44 c44 : Nat) (s42 s43 u0 u1 u2 u3 u4 u5 u6 u7 u8 u9 u10 u11 u12 u13 u14 u15 u16 u17 u18 u19 u20 u21 u22 u23 u24 u25 u26 u27 u28 u29 u30 u31 u32 u33 u34 u35 u36 u37 u63 u64 u65 u66 u67 u68 u69 u70 u71 u72 u73 u74 u75 u76 u77 u78 u79 : Value) (hf : ArgC w0 pf m cf fl) (hm : 0 < m) (hm2 : m ≤ 2000) (hx : 0 ≤ x ∧ x ≤ 255) (w : World) (v46 : Value) (h : Inv w0 w [(v46, [x])]) : wpAny Tryd.prog .any cutsOps (CutsPost w0 pf m cf x fl p39 p44 n39 c39 n44 c44 s42 s43 u0 u1 u2 u3 u4 u5 u6 u7 u8 u9 u10 u11 u12 u13 u14 u15 u16 u17 u18 u19 u20 u21 u22 u23 u24 u25 u26 u27 u28 u29 u30 u31 u32 u33 u34 u35 u36 u37 u63 u64 u65 u66 u67 u68 u69 u70 u71 u72 u73 u74 u75 u76 u77 u78 u79 hf hm hm2 hx) 10 #[true, true, true, true, true, true, true, true, true, true, false, false, true, false, true, false, false, false, true, false, true, false, false, false, true] { tmps := #[u0, u1, u2, u3, u4, u5, u6, u7, u8, u9, u10, u11, u12, u13, u14, u15, u16, u17, u18, u19, u20, u21, u22, u23, u24, u25, u26, u27, u28, u29, u30, u31, u32, u33, u34, u35, u36, u37, (.slice pf m cf), (.slice p39 n39 c39), (.slice pf m cf), (.slice pf m cf), s42, s43, (.slice p44 n44 c44), (.int .u8 x), v46, (.slice pf m cf), undef, undef, (.slice pf m cf), undef, (.int .u8 x), undef, undef, undef, (.slice pf m cf), undef, (.slice pf m cf), undef, undef, undef, (.int .i64 0), u63, u64, u65, u66, u67, u68, u69, u70, u71, u72, u73, u74, u75, u76, u77, u78, u79], defers := [] } w := by
  refine wpAny_ready (rs := [10, 11, 15, 17]) (by kernel_rfl) (by simp) ?_
  refine AllReady.cons (o := { dst := some 48, op := Op.call { callee := Callee.builtin Builtin.append, args := #[Operand.tmp 46, Operand.tmp 47], argTypes := #[23, 23] }, type := 23, pos := "law.go:87", after := #[{ on := 8, ground := Ground.data }, { on := 9, ground := Ground.data }], guard := none }) rfl (fun K hK => ?_) ?_
  · have h' : Inv w0 w [(v46, [x])] := h.perm (List.perm_middle (l₁ := []) (l₂ := []))
    refine step_app h' rfl _ _ rfl rfl pf m cf fl rfl (hf.below h.grew) hm (by have := hf.len; simp; omega) ?_
    intro v48 w' h2
    refine hK _ _ ?_
    clear hK K
    (try simp only [Act.put, List.setIfInBounds_toArray, List.set_cons_zero, List.set_cons_succ])
    exact st_1_46 w0 pf m cf x fl p39 p44 n39 c39 n44 c44 s42 s43 u0 u1 u2 u3 u4 u5 u6 u7 u8 u9 u10 u11 u12 u13 u14 u15 u16 u17 u18 u19 u20 u21 u22 u23 u24 u25 u26 u27 u28 u29 u30 u31 u32 u33 u34 u35 u36 u37 u63 u64 u65 u66 u67 u68 u69 u70 u71 u72 u73 u74 u75 u76 u77 u78 u79 hf hm hm2 hx w' v46 v48 (h2.perm (List.perm_middle (l₁ := []) (l₂ := [])).symm)
  refine AllReady.cons (o := { dst := some 49, op := Op.buildSlice 23 0 #[], type := 23, pos := "law.go:87", after := #[], guard := none }) rfl (fun K hK => ?_) ?_
  · go_simp
    refine hK _ _ ?_
    clear hK K
    (try simp only [List.setIfInBounds_toArray, List.set_cons_zero, List.set_cons_succ])
    exact st_0_4649 w0 pf m cf x fl p39 p44 n39 c39 n44 c44 s42 s43 u0 u1 u2 u3 u4 u5 u6 u7 u8 u9 u10 u11 u12 u13 u14 u15 u16 u17 u18 u19 u20 u21 u22 u23 u24 u25 u26 u27 u28 u29 u30 u31 u32 u33 u34 u35 u36 u37 u63 u64 u65 u66 u67 u68 u69 u70 u71 u72 u73 u74 u75 u76 u77 u78 u79 hf hm hm2 hx _ v46 (.slice (some ⟨w.heap.size, 0, none⟩) 0 0) ((h.new [] (by simp)).perm (List.perm_middle (l₁ := [(v46, [x])]) (l₂ := [])).symm)
  refine AllReady.cons (o := { dst := some 53, op := Op.buildSlice 23 1 #[(0, Operand.tmp 52)], type := 23, pos := "law.go:87", after := #[{ on := 14, ground := Ground.data }], guard := none }) rfl (fun K hK => ?_) ?_
  · go_simp
    refine hK _ _ ?_
    clear hK K
    (try simp only [List.setIfInBounds_toArray, List.set_cons_zero, List.set_cons_succ])
    exact st_0_4653 w0 pf m cf x fl p39 p44 n39 c39 n44 c44 s42 s43 u0 u1 u2 u3 u4 u5 u6 u7 u8 u9 u10 u11 u12 u13 u14 u15 u16 u17 u18 u19 u20 u21 u22 u23 u24 u25 u26 u27 u28 u29 u30 u31 u32 u33 u34 u35 u36 u37 u63 u64 u65 u66 u67 u68 u69 u70 u71 u72 u73 u74 u75 u76 u77 u78 u79 hf hm hm2 hx _ v46 (.slice (some ⟨w.heap.size, 0, none⟩) 1 1) ((h.new [x] (by simp)).perm (List.perm_middle (l₁ := [(v46, [x])]) (l₂ := [])).symm)
  refine AllReady.cons (o := { dst := some 55, op := Op.buildSlice 23 0 #[], type := 23, pos := "law.go:87", after := #[], guard := none }) rfl (fun K hK => ?_) ?_
  · go_simp
    refine hK _ _ ?_
    clear hK K
    (try simp only [List.setIfInBounds_toArray, List.set_cons_zero, List.set_cons_succ])
    exact st_0_4655 w0 pf m cf x fl p39 p44 n39 c39 n44 c44 s42 s43 u0 u1 u2 u3 u4 u5 u6 u7 u8 u9 u10 u11 u12 u13 u14 u15 u16 u17 u18 u19 u20 u21 u22 u23 u24 u25 u26 u27 u28 u29 u30 u31 u32 u33 u34 u35 u36 u37 u63 u64 u65 u66 u67 u68 u69 u70 u71 u72 u73 u74 u75 u76 u77 u78 u79 hf hm hm2 hx _ v46 (.slice (some ⟨w.heap.size, 0, none⟩) 0 0) ((h.new [] (by simp)).perm (List.perm_middle (l₁ := [(v46, [x])]) (l₂ := [])).symm)
  exact AllReady.nil

set_option maxRecDepth 100000 in
set_option maxHeartbeats 2000000 in
theorem st_0_49 (w0 : World) (pf : Option Addr) (m cf : Nat) (x : Int) (fl : List Int) (p39 p44 : Option Addr) (n39 c39 n44 c44 : Nat) (s42 s43 u0 u1 u2 u3 u4 u5 u6 u7 u8 u9 u10 u11 u12 u13 u14 u15 u16 u17 u18 u19 u20 u21 u22 u23 u24 u25 u26 u27 u28 u29 u30 u31 u32 u33 u34 u35 u36 u37 u63 u64 u65 u66 u67 u68 u69 u70 u71 u72 u73 u74 u75 u76 u77 u78 u79 : Value) (hf : ArgC w0 pf m cf fl) (hm : 0 < m) (hm2 : m ≤ 2000) (hx : 0 ≤ x ∧ x ≤ 255) (w : World) (v49 : Value) (h : Inv w0 w [(v49, [])]) : wpAny Tryd.prog .any cutsOps (CutsPost w0 pf m cf x fl p39 p44 n39 c39 n44 c44 s42 s43 u0 u1 u2 u3 u4 u5 u6 u7 u8 u9 u10 u11 u12 u13 u14 u15 u16 u17 u18 u19 u20 u21 u22 u23 u24 u25 u26 u27 u28 u29 u30 u31 u32 u33 u34 u35 u36 u37 u63 u64 u65 u66 u67 u68 u69 u70 u71 u72 u73 u74 u75 u76 u77 u78 u79 hf hm hm2 hx) 10 #[true, true, true, true, true, true, true, true, false, true, false, true, true, false, true, false, false, false, true, false, true, false, false, false, true] { tmps := #[u0, u1, u2, u3, u4, u5, u6, u7, u8, u9, u10, u11, u12, u13, u14, u15, u16, u17, u18, u19, u20, u21, u22, u23, u24, u25, u26, u27, u28, u29, u30, u31, u32, u33, u34, u35, u36, u37, (.slice pf m cf), (.slice p39 n39 c39), (.slice pf m cf), (.slice pf m cf), s42, s43, (.slice p44 n44 c44), (.int .u8 x), undef, (.slice pf m cf), undef, v49, (.slice pf m cf), undef, (.int .u8 x), undef, undef, undef, (.slice pf m cf), undef, (.slice pf m cf), undef, undef, undef, (.int .i64 0), u63, u64, u65, u66, u67, u68, u69, u70, u71, u72, u73, u74, u75, u76, u77, u78, u79], defers := [] } w := by
  refine wpAny_ready (rs := [8, 15, 17]) (by kernel_rfl) (by simp) ?_
  refine AllReady.cons (o := { dst := some 46, op := Op.buildSlice 23 1 #[(0, Operand.tmp 45)], type := 23, pos := "law.go:87", after := #[{ on := 7, ground := Ground.data }], guard := none }) rfl (fun K hK => ?_) ?_
  · go_simp
    refine hK _ _ ?_
    clear hK K
    (try simp only [List.setIfInBounds_toArray, List.set_cons_zero, List.set_cons_succ])
    exact st_0_4649 w0 pf m cf x fl p39 p44 n39 c39 n44 c44 s42 s43 u0 u1 u2 u3 u4 u5 u6 u7 u8 u9 u10 u11 u12 u13 u14 u15 u16 u17 u18 u19 u20 u21 u22 u23 u24 u25 u26 u27 u28 u29 u30 u31 u32 u33 u34 u35 u36 u37 u63 u64 u65 u66 u67 u68 u69 u70 u71 u72 u73 u74 u75 u76 u77 u78 u79 hf hm hm2 hx _ (.slice (some ⟨w.heap.size, 0, none⟩) 1 1) v49 ((h.new [x] (by simp)).perm (List.perm_middle (l₁ := []) (l₂ := [(v49, [])])).symm)
  refine AllReady.cons (o := { dst := some 53, op := Op.buildSlice 23 1 #[(0, Operand.tmp 52)], type := 23, pos := "law.go:87", after := #[{ on := 14, ground := Ground.data }], guard := none }) rfl (fun K hK => ?_) ?_
  · go_simp
    refine hK _ _ ?_
    clear hK K
    (try simp only [List.setIfInBounds_toArray, List.set_cons_zero, List.set_cons_succ])
    exact st_0_4953 w0 pf m cf x fl p39 p44 n39 c39 n44 c44 s42 s43 u0 u1 u2 u3 u4 u5 u6 u7 u8 u9 u10 u11 u12 u13 u14 u15 u16 u17 u18 u19 u20 u21 u22 u23 u24 u25 u26 u27 u28 u29 u30 u31 u32 u33 u34 u35 u36 u37 u63 u64 u65 u66 u67 u68 u69 u70 u71 u72 u73 u74 u75 u76 u77 u78 u79 hf hm hm2 hx _ v49 (.slice (some ⟨w.heap.size, 0, none⟩) 1 1) ((h.new [x] (by simp)).perm (List.perm_middle (l₁ := [(v49, [])]) (l₂ := [])).symm)
  refine AllReady.cons (o := { dst := some 55, op := Op.buildSlice 23 0 #[], type := 23, pos := "law.go:87", after := #[], guard := none }) rfl (fun K hK => ?_) ?_
  · go_simp
    refine hK _ _ ?_
    clear hK K
    (try simp only [List.setIfInBounds_toArray, List.set_cons_zero, List.set_cons_succ])
    exact st_0_4955 w0 pf m cf x fl p39 p44 n39 c39 n44 c44 s42 s43 u0 u1 u2 u3 u4 u5 u6 u7 u8 u9 u10 u11 u12 u13 u14 u15 u16 u17 u18 u19 u20 u21 u22 u23 u24 u25 u26 u27 u28 u29 u30 u31 u32 u33 u34 u35 u36 u37 u63 u64 u65 u66 u67 u68 u69 u70 u71 u72 u73 u74 u75 u76 u77 u78 u79 hf hm hm2 hx _ v49 (.slice (some ⟨w.heap.size, 0, none⟩) 0 0) ((h.new [] (by simp)).perm (List.perm_middle (l₁ := [(v49, [])]) (l₂ := [])).symm)
  exact AllReady.nil

set_option maxRecDepth 100000 in
set_option maxHeartbeats 2000000 in
theorem st_0_53 (w0 : World) (pf : Option Addr) (m cf : Nat) (x : Int) (fl : List Int) (p39 p44 : Option Addr) (n39 c39 n44 c44 : Nat) (s42 s43 u0 u1 u2 u3 u4 u5 u6 u7 u8 u9 u10 u11 u12 u13 u14 u15 u16 u17 u18 u19 u20 u21 u22 u23 u24 u25 u26 u27 u28 u29 u30 u31 u32 u33 u34 u35 u36 u37 u63 u64 u65 u66 u67 u68 u69 u70 u71 u72 u73 u74 u75 u76 u77 u78 u79 : Value) (hf : ArgC w0 pf m cf fl) (hm : 0 < m) (hm2 : m ≤ 2000) (hx : 0 ≤ x ∧ x ≤ 255) (w : World) (v53 : Value) (h : Inv w0 w [(v53, [x])]) : wpAny Tryd.prog .any cutsOps (CutsPost w0 pf m cf x fl p39 p44 n39 c39 n44 c44 s42 s43 u0 u1 u2 u3 u4 u5 u6 u7 u8 u9 u10 u11 u12 u13 u14 u15 u16 u17 u18 u19 u20 u21 u22 u23 u24 u25 u26 u27 u28 u29 u30 u31 u32 u33 u34 u35 u36 u37 u63 u64 u65 u66 u67 u68 u69 u70 u71 u72 u73 u74 u75 u76 u77 u78 u79 hf hm hm2 hx) 10 #[true, true, true, true, true, true, true, true, false, true, false, false, true, false, true, true, false, false, true, false, true, false, false, false, true] { tmps := #[u0, u1, u2, u3, u4, u5, u6, u7, u8, u9, u10, u11, u12, u13, u14, u15, u16, u17, u18, u19, u20, u21, u22, u23, u24, u25, u26, u27, u28, u29, u30, u31, u32, u33, u34, u35, u36, u37, (.slice pf m cf), (.slice p39 n39 c39), (.slice pf m cf), (.slice pf m cf), s42, s43, (.slice p44 n44 c44), (.int .u8 x), undef, (.slice pf m cf), undef, undef, (.slice pf m cf), undef, (.int .u8 x), v53, undef, undef, (.slice pf m cf), undef, (.slice pf m cf), undef, undef, undef, (.int .i64 0), u63, u64, u65, u66, u67, u68, u69, u70, u71, u72, u73, u74, u75, u76, u77, u78, u79], defers := [] } w := by
  refine wpAny_ready (rs := [8, 11, 17]) (by kernel_rfl) (by simp) ?_
  refine AllReady.cons (o := { dst := some 46, op := Op.buildSlice 23 1 #[(0, Operand.tmp 45)], type := 23, pos := "law.go:87", after := #[{ on := 7, ground := Ground.data }], guard := none }) rfl (fun K hK => ?_) ?_
  · go_simp
    refine hK _ _ ?_
    clear hK K
    (try simp only [List.setIfInBounds_toArray, List.set_cons_zero, List.set_cons_succ])
    exact st_0_4653 w0 pf m cf x fl p39 p44 n39 c39 n44 c44 s42 s43 u0 u1 u2 u3 u4 u5 u6 u7 u8 u9 u10 u11 u12 u13 u14 u15 u16 u17 u18 u19 u20 u21 u22 u23 u24 u25 u26 u27 u28 u29 u30 u31 u32 u33 u34 u35 u36 u37 u63 u64 u65 u66 u67 u68 u69 u70 u71 u72 u73 u74 u75 u76 u77 u78 u79 hf hm hm2 hx _ (.slice (some ⟨w.heap.size, 0, none⟩) 1 1) v53 ((h.new [x] (by simp)).perm (List.perm_middle (l₁ := []) (l₂ := [(v53, [x])])).symm)
  refine AllReady.cons (o := { dst := some 49, op := Op.buildSlice 23 0 #[], type := 23, pos := "law.go:87", after := #[], guard := none }) rfl (fun K hK => ?_) ?_
  · go_simp
    refine hK _ _ ?_
    clear hK K
    (try simp only [List.setIfInBounds_toArray, List.set_cons_zero, List.set_cons_succ])
    exact st_0_4953 w0 pf m cf x fl p39 p44 n39 c39 n44 c44 s42 s43 u0 u1 u2 u3 u4 u5 u6 u7 u8 u9 u10 u11 u12 u13 u14 u15 u16 u17 u18 u19 u20 u21 u22 u23 u24 u25 u26 u27 u28 u29 u30 u31 u32 u33 u34 u35 u36 u37 u63 u64 u65 u66 u67 u68 u69 u70 u71 u72 u73 u74 u75 u76 u77 u78 u79 hf hm hm2 hx _ (.slice (some ⟨w.heap.size, 0, none⟩) 0 0) v53 ((h.new [] (by simp)).perm (List.perm_middle (l₁ := []) (l₂ := [(v53, [x])])).symm)
  refine AllReady.cons (o := { dst := some 55, op := Op.buildSlice 23 0 #[], type := 23, pos := "law.go:87", after := #[], guard := none }) rfl (fun K hK => ?_) ?_
  · go_simp
    refine hK _ _ ?_
    clear hK K
    (try simp only [List.setIfInBounds_toArray, List.set_cons_zero, List.set_cons_succ])
    exact st_0_5355 w0 pf m cf x fl p39 p44 n39 c39 n44 c44 s42 s43 u0 u1 u2 u3 u4 u5 u6 u7 u8 u9 u10 u11 u12 u13 u14 u15 u16 u17 u18 u19 u20 u21 u22 u23 u24 u25 u26 u27 u28 u29 u30 u31 u32 u33 u34 u35 u36 u37 u63 u64 u65 u66 u67 u68 u69 u70 u71 u72 u73 u74 u75 u76 u77 u78 u79 hf hm hm2 hx _ v53 (.slice (some ⟨w.heap.size, 0, none⟩) 0 0) ((h.new [] (by simp)).perm (List.perm_middle (l₁ := [(v53, [x])]) (l₂ := [])).symm)
  exact AllReady.nil

set_option maxRecDepth 100000 in
set_option maxHeartbeats 2000000 in
theorem st_0_55 (w0 : World) (pf : Option Addr) (m cf : Nat) (x : Int) (fl : List Int) (p39 p44 : Option Addr) (n39 c39 n44 c44 : Nat) (s42 s43 u0 u1 u2 u3 u4 u5 u6 u7 u8 u9 u10 u11 u12 u13 u14 u15 u16 u17 u18 u19 u20 u21 u22 u23 u24 u25 u26 u27 u28 u29 u30 u31 u32 u33 u34 u35 u36 u37 u63 u64 u65 u66 u67 u68 u69 u70 u71 u72 u73 u74 u75 u76 u77 u78 u79 : Value) (hf : ArgC w0 pf m cf fl) (hm : 0 < m) (hm2 : m ≤ 2000) (hx : 0 ≤ x ∧ x ≤ 255) (w : World) (v55 : Value) (h : Inv w0 w [(v55, [])]) : wpAny Tryd.prog .any cutsOps (CutsPost w0 pf m cf x fl p39 p44 n39 c39 n44 c44 s42 s43 u0 u1 u2 u3 u4 u5 u6 u7 u8 u9 u10 u11 u12 u13 u14 u15 u16 u17 u18 u19 u20 u21 u22 u23 u24 u25 u26 u27 u28 u29 u30 u31 u32 u33 u34 u35 u36 u37 u63 u64 u65 u66 u67 u68 u69 u70 u71 u72 u73 u74 u75 u76 u77 u78 u79 hf hm hm2 hx) 10 #[true, true, true, true, true, true, true, true, false, true, false, false, true, false, true, false, false, true, true, false, true, false, false, false, true] { tmps := #[u0, u1, u2, u3, u4, u5, u6, u7, u8, u9, u10, u11, u12, u13, u14, u15, u16, u17, u18, u19, u20, u21, u22, u23, u24, u25, u26, u27, u28, u29, u30, u31, u32, u33, u34, u35, u36, u37, (.slice pf m cf), (.slice p39 n39 c39), (.slice pf m cf), (.slice pf m cf), s42, s43, (.slice p44 n44 c44), (.int .u8 x), undef, (.slice pf m cf), undef, undef, (.slice pf m cf), undef, (.int .u8 x), undef, undef, v55, (.slice pf m cf), undef, (.slice pf m cf), undef, undef, undef, (.int .i64 0), u63, u64, u65, u66, u67, u68, u69, u70, u71, u72, u73, u74, u75, u76, u77, u78, u79], defers := [] } w := by
  refine wpAny_ready (rs := [8, 11, 15]) (by kernel_rfl) (by simp) ?_
  refine AllReady.cons (o := { dst := some 46, op := Op.buildSlice 23 1 #[(0, Operand.tmp 45)], type := 23, pos := "law.go:87", after := #[{ on := 7, ground := Ground.data }], guard := none }) rfl (fun K hK => ?_) ?_
  · go_simp
    refine hK _ _ ?_
    clear hK K
    (try simp only [List.setIfInBounds_toArray, List.set_cons_zero, List.set_cons_succ])
    exact st_0_4655 w0 pf m cf x fl p39 p44 n39 c39 n44 c44 s42 s43 u0 u1 u2 u3 u4 u5 u6 u7 u8 u9 u10 u11 u12 u13 u14 u15 u16 u17 u18 u19 u20 u21 u22 u23 u24 u25 u26 u27 u28 u29 u30 u31 u32 u33 u34 u35 u36 u37 u63 u64 u65 u66 u67 u68 u69 u70 u71 u72 u73 u74 u75 u76 u77 u78 u79 hf hm hm2 hx _ (.slice (some ⟨w.heap.size, 0, none⟩) 1 1) v55 ((h.new [x] (by simp)).perm (List.perm_middle (l₁ := []) (l₂ := [(v55, [])])).symm)
  refine AllReady.cons (o := { dst := some 49, op := Op.buildSlice 23 0 #[], type := 23, pos := "law.go:87", after := #[], guard := none }) rfl (fun K hK => ?_) ?_
  · go_simp
    refine hK _ _ ?_
    clear hK K
    (try simp only [List.setIfInBounds_toArray, List.set_cons_zero, List.set_cons_succ])
    exact st_0_4955 w0 pf m cf x fl p39 p44 n39 c39 n44 c44 s42 s43 u0 u1 u2 u3 u4 u5 u6 u7 u8 u9 u10 u11 u12 u13 u14 u15 u16 u17 u18 u19 u20 u21 u22 u23 u24 u25 u26 u27 u28 u29 u30 u31 u32 u33 u34 u35 u36 u37 u63 u64 u65 u66 u67 u68 u69 u70 u71 u72 u73 u74 u75 u76 u77 u78 u79 hf hm hm2 hx _ (.slice (some ⟨w.heap.size, 0, none⟩) 0 0) v55 ((h.new [] (by simp)).perm (List.perm_middle (l₁ := []) (l₂ := [(v55, [])])).symm)
  refine AllReady.cons (o := { dst := some 53, op := Op.buildSlice 23 1 #[(0, Operand.tmp 52)], type := 23, pos := "law.go:87", after := #[{ on := 14, ground := Ground.data }], guard := none }) rfl (fun K hK => ?_) ?_
  · go_simp
    refine hK _ _ ?_
    clear hK K
    (try simp only [List.setIfInBounds_toArray, List.set_cons_zero, List.set_cons_succ])
    exact st_0_5355 w0 pf m cf x fl p39 p44 n39 c39 n44 c44 s42 s43 u0 u1 u2 u3 u4 u5 u6 u7 u8 u9 u10 u11 u12 u13 u14 u15 u16 u17 u18 u19 u20 u21 u22 u23 u24 u25 u26 u27 u28 u29 u30 u31 u32 u33 u34 u35 u36 u37 u63 u64 u65 u66 u67 u68 u69 u70 u71 u72 u73 u74 u75 u76 u77 u78 u79 hf hm hm2 hx _ (.slice (some ⟨w.heap.size, 0, none⟩) 1 1) v55 ((h.new [x] (by simp)).perm (List.perm_middle (l₁ := []) (l₂ := [(v55, [])])).symm)
  exact AllReady.nil

set_option maxRecDepth 100000 in
set_option maxHeartbeats 2000000 in
theorem st_0_0 (w0 : World) (pf : Option Addr) (m cf : Nat) (x : Int) (fl : List Int) (p39 p44 : Option Addr) (n39 c39 n44 c44 : Nat) (s42 s43 u0 u1 u2 u3 u4 u5 u6 u7 u8 u9 u10 u11 u12 u13 u14 u15 u16 u17 u18 u19 u20 u21 u22 u23 u24 u25 u26 u27 u28 u29 u30 u31 u32 u33 u34 u35 u36 u37 u63 u64 u65 u66 u67 u68 u69 u70 u71 u72 u73 u74 u75 u76 u77 u78 u79 : Value) (hf : ArgC w0 pf m cf fl) (hm : 0 < m) (hm2 : m ≤ 2000) (hx : 0 ≤ x ∧ x ≤ 255) (w : World) (h : Inv w0 w []) : wpAny Tryd.prog .any cutsOps (CutsPost w0 pf m cf x fl p39 p44 n39 c39 n44 c44 s42 s43 u0 u1 u2 u3 u4 u5 u6 u7 u8 u9 u10 u11 u12 u13 u14 u15 u16 u17 u18 u19 u20 u21 u22 u23 u24 u25 u26 u27 u28 u29 u30 u31 u32 u33 u34 u35 u36 u37 u63 u64 u65 u66 u67 u68 u69 u70 u71 u72 u73 u74 u75 u76 u77 u78 u79 hf hm hm2 hx) 11 #[true, true, true, true, true, true, true, true, false, true, false, false, true, false, true, false, false, false, true, false, true, false, false, false, true] { tmps := #[u0, u1, u2, u3, u4, u5, u6, u7, u8, u9, u10, u11, u12, u13, u14, u15, u16, u17, u18, u19, u20, u21, u22, u23, u24, u25, u26, u27, u28, u29, u30, u31, u32, u33, u34, u35, u36, u37, (.slice pf m cf), (.slice p39 n39 c39), (.slice pf m cf), (.slice pf m cf), s42, s43, (.slice p44 n44 c44), (.int .u8 x), undef, (.slice pf m cf), undef, undef, (.slice pf m cf), undef, (.int .u8 x), undef, undef, undef, (.slice pf m cf), undef, (.slice pf m cf), undef, undef, undef, (.int .i64 0), u63, u64, u65, u66, u67, u68, u69, u70, u71, u72, u73, u74, u75, u76, u77, u78, u79], defers := [] } w := by
  refine wpAny_ready (rs := [8, 11, 15, 17]) (by kernel_rfl) (by simp) ?_
  refine AllReady.cons (o := { dst := some 46, op := Op.buildSlice 23 1 #[(0, Operand.tmp 45)], type := 23, pos := "law.go:87", after := #[{ on := 7, ground := Ground.data }], guard := none }) rfl (fun K hK => ?_) ?_
  · go_simp
    refine hK _ _ ?_
    clear hK K
    (try simp only [List.setIfInBounds_toArray, List.set_cons_zero, List.set_cons_succ])
    exact st_0_46 w0 pf m cf x fl p39 p44 n39 c39 n44 c44 s42 s43 u0 u1 u2 u3 u4 u5 u6 u7 u8 u9 u10 u11 u12 u13 u14 u15 u16 u17 u18 u19 u20 u21 u22 u23 u24 u25 u26 u27 u28 u29 u30 u31 u32 u33 u34 u35 u36 u37 u63 u64 u65 u66 u67 u68 u69 u70 u71 u72 u73 u74 u75 u76 u77 u78 u79 hf hm hm2 hx _ (.slice (some ⟨w.heap.size, 0, none⟩) 1 1) ((h.new [x] (by simp)).perm (List.perm_middle (l₁ := []) (l₂ := [])).symm)
  refine AllReady.cons (o := { dst := some 49, op := Op.buildSlice 23 0 #[], type := 23, pos := "law.go:87", after := #[], guard := none }) rfl (fun K hK => ?_) ?_
  · go_simp
    refine hK _ _ ?_
    clear hK K
    (try simp only [List.setIfInBounds_toArray, List.set_cons_zero, List.set_cons_succ])
    exact st_0_49 w0 pf m cf x fl p39 p44 n39 c39 n44 c44 s42 s43 u0 u1 u2 u3 u4 u5 u6 u7 u8 u9 u10 u11 u12 u13 u14 u15 u16 u17 u18 u19 u20 u21 u22 u23 u24 u25 u26 u27 u28 u29 u30 u31 u32 u33 u34 u35 u36 u37 u63 u64 u65 u66 u67 u68 u69 u70 u71 u72 u73 u74 u75 u76 u77 u78 u79 hf hm hm2 hx _ (.slice (some ⟨w.heap.size, 0, none⟩) 0 0) ((h.new [] (by simp)).perm (List.perm_middle (l₁ := []) (l₂ := [])).symm)
  refine AllReady.cons (o := { dst := some 53, op := Op.buildSlice 23 1 #[(0, Operand.tmp 52)], type := 23, pos := "law.go:87", after := #[{ on := 14, ground := Ground.data }], guard := none }) rfl (fun K hK => ?_) ?_
  · go_simp
    refine hK _ _ ?_
    clear hK K
    (try simp only [List.setIfInBounds_toArray, List.set_cons_zero, List.set_cons_succ])
    exact st_0_53 w0 pf m cf x fl p39 p44 n39 c39 n44 c44 s42 s43 u0 u1 u2 u3 u4 u5 u6 u7 u8 u9 u10 u11 u12 u13 u14 u15 u16 u17 u18 u19 u20 u21 u22 u23 u24 u25 u26 u27 u28 u29 u30 u31 u32 u33 u34 u35 u36 u37 u63 u64 u65 u66 u67 u68 u69 u70 u71 u72 u73 u74 u75 u76 u77 u78 u79 hf hm hm2 hx _ (.slice (some ⟨w.heap.size, 0, none⟩) 1 1) ((h.new [x] (by simp)).perm (List.perm_middle (l₁ := []) (l₂ := [])).symm)
  refine AllReady.cons (o := { dst := some 55, op := Op.buildSlice 23 0 #[], type := 23, pos := "law.go:87", after := #[], guard := none }) rfl (fun K hK => ?_) ?_
  · go_simp
    refine hK _ _ ?_
    clear hK K
    (try simp only [List.setIfInBounds_toArray, List.set_cons_zero, List.set_cons_succ])
    exact st_0_55 w0 pf m cf x fl p39 p44 n39 c39 n44 c44 s42 s43 u0 u1 u2 u3 u4 u5 u6 u7 u8 u9 u10 u11 u12 u13 u14 u15 u16 u17 u18 u19 u20 u21 u22 u23 u24 u25 u26 u27 u28 u29 u30 u31 u32 u33 u34 u35 u36 u37 u63 u64 u65 u66 u67 u68 u69 u70 u71 u72 u73 u74 u75 u76 u77 u78 u79 hf hm hm2 hx _ (.slice (some ⟨w.heap.size, 0, none⟩) 0 0) ((h.new [] (by simp)).perm (List.perm_middle (l₁ := []) (l₂ := [])).symm)
  exact AllReady.nil

end Go.Proofs.YthhbohpmbkdkeaaDoor
