/- Plain facts on the words of float64 (the model's Ieee core): a word that is not below 0 is a number of units of 2^-1074; order, product, half, truncation; the delay as a plain function. No program here, no condition. -/
import Derived.Laws.FloatArith
namespace Go.Proofs.Ytlhpmnnbjkbahaa.Fl
open Ieee

theorem lp : double.leastPlace = -1074 := by decide
theorem bn : double.binade = 4503599627370496 := by decide
theorem ir : double.infRung = 9218868437227405312 := by decide
theorem sw : double.signWeight = 9223372036854775808 := by decide

/-- n / 2^k, to the nearest, between two the even one -/
def re (n k : Nat) : Nat :=
  n / 2 ^ k + (if 2 ^ k < 2 * (n % 2 ^ k) ∨ (2 ^ k = 2 * (n % 2 ^ k) ∧ n / 2 ^ k % 2 = 1) then 1 else 0)

theorem re_small {n k : Nat} (h : 2 * n < 2 ^ k) : re n k = 0 := by
  unfold re
  have h1 : n / 2 ^ k = 0 := Nat.div_eq_of_lt (by omega)
  have h2 : n % 2 ^ k = n := Nat.mod_eq_of_lt (by omega)
  rw [h1, h2, if_neg (by omega)]

theorem cut_even (neg : Bool) (n k : Nat) : Toward.even.cut neg n k = re n k := by
  have two (j : Nat) : 1 <<< j = 2 ^ j := by rw [Nat.shiftLeft_eq, Nat.one_mul]
  have hb (g : Nat) : (decide (g < 2 * (n % g)) || (g == 2 * (n % g) && n / g % 2 == 1)).toNat = (if g < 2 * (n % g) ∨ (g = 2 * (n % g) ∧ n / g % 2 = 1) then 1 else 0) := by
    by_cases c1 : g < 2 * (n % g)
    · simp [c1]
    · by_cases c2 : g = 2 * (n % g) ∧ n / g % 2 = 1
      · rw [if_pos (Or.inr c2)]
        simp only [decide_eq_false c1, Bool.false_or]
        rw [beq_iff_eq.2 c2.1, beq_iff_eq.2 c2.2]; rfl
      · rw [if_neg (by omega)]
        simp only [decide_eq_false c1, Bool.false_or]
        by_cases c3 : g = 2 * (n % g)
        · have c4 : ¬ n / g % 2 = 1 := fun h => c2 ⟨c3, h⟩
          rw [beq_eq_false_iff_ne.2 c4]; simp
        · rw [beq_eq_false_iff_ne.2 c3]; simp
  unfold Toward.cut
  dsimp only
  rw [two, hb]
  by_cases hk : k ≤ n.log2 + 2
  · rw [Nat.min_eq_left hk]; rfl
  · have hn : n < 2 ^ (n.log2 + 1) := Nat.lt_log2_self
    have e1 : 2 ^ (n.log2 + 2) = 2 * 2 ^ (n.log2 + 1) := by rw [Nat.pow_succ]; omega
    have e2 : 2 ^ (n.log2 + 2) ≤ 2 ^ k := Nat.pow_le_pow_right (by omega) (by omega)
    rw [Nat.min_eq_right (by omega)]
    rw [re_small (by omega)]
    exact re_small (k := n.log2 + 2) (by omega)

theorem cut_zero (neg : Bool) (n k : Nat) : Toward.zero.cut neg n k = n / 2 ^ k := by
  unfold Toward.cut
  dsimp only
  have two (j : Nat) : 1 <<< j = 2 ^ j := by rw [Nat.shiftLeft_eq, Nat.one_mul]
  rw [two]
  simp only [Bool.toNat_false, Nat.add_zero]
  by_cases hk : k ≤ n.log2 + 2
  · rw [Nat.min_eq_left hk]
  · have hn : n < 2 ^ (n.log2 + 1) := Nat.lt_log2_self
    have e1 : 2 ^ (n.log2 + 2) = 2 * 2 ^ (n.log2 + 1) := by rw [Nat.pow_succ]; omega
    have e2 : 2 ^ (n.log2 + 2) ≤ 2 ^ k := Nat.pow_le_pow_right (by omega) (by omega)
    rw [Nat.min_eq_right (by omega), Nat.div_eq_of_lt (by omega), Nat.div_eq_of_lt (by omega)]

theorem re_mono {n m k : Nat} (h : n ≤ m) : re n k ≤ re m k := by
  have hg : 0 < 2 ^ k := Nat.two_pow_pos k
  generalize 2 ^ k = g at hg ⊢
  have key : ∀ g, 0 < g → n / g + (if g < 2 * (n % g) ∨ (g = 2 * (n % g) ∧ n / g % 2 = 1) then 1 else 0) ≤ m / g + (if g < 2 * (m % g) ∨ (g = 2 * (m % g) ∧ m / g % 2 = 1) then 1 else 0) := by
    intro g hg
    have hq : n / g ≤ m / g := Nat.div_le_div_right h
    rcases Nat.lt_or_eq_of_le hq with hlt | heq
    · split <;> split <;> omega
    · have e1 := Nat.div_add_mod n g
      have e2 := Nat.div_add_mod m g
      rw [heq] at e1
      have hr : n % g ≤ m % g := by omega
      rw [heq]
      have b1 := Nat.mod_lt n hg
      have b2 := Nat.mod_lt m hg
      split
      · rename_i hn
        rw [if_pos (by omega)]
        exact Nat.le_refl _
      · omega
  exact key _ (Nat.two_pow_pos k)

theorem re_mul {n k : Nat} : re (n * 2 ^ k) k = n := by
  unfold re
  have hg : 0 < 2 ^ k := Nat.two_pow_pos k
  rw [Nat.mul_div_cancel _ hg, Nat.mul_mod_left, if_neg (by omega)]
  rfl

theorem re_shift (n k t : Nat) : re (n * 2 ^ t) (k + t) = re n k := by
  unfold re
  have ht : 0 < 2 ^ t := Nat.two_pow_pos t
  rw [Nat.pow_add, Nat.mul_div_mul_right _ _ ht, Nat.mul_mod_mul_right]
  have c : (2 ^ k * 2 ^ t < 2 * (n % 2 ^ k * 2 ^ t) ∨ (2 ^ k * 2 ^ t = 2 * (n % 2 ^ k * 2 ^ t) ∧ n / 2 ^ k % 2 = 1)) ↔ (2 ^ k < 2 * (n % 2 ^ k) ∨ (2 ^ k = 2 * (n % 2 ^ k) ∧ n / 2 ^ k % 2 = 1)) := by
    rw [← Nat.mul_assoc, Nat.mul_lt_mul_right ht, Nat.mul_left_inj (by omega : 2 ^ t ≠ 0)]
  by_cases h : 2 ^ k < 2 * (n % 2 ^ k) ∨ (2 ^ k = 2 * (n % 2 ^ k) ∧ n / 2 ^ k % 2 = 1)
  · rw [if_pos h, if_pos (c.2 h)]
  · rw [if_neg h, if_neg (fun x => h (c.1 x))]

theorem re_le {n k j : Nat} (h : n < 2 ^ (k + j)) : re n k ≤ 2 ^ j := by
  unfold re
  have h1 : n / 2 ^ k < 2 ^ j := Nat.div_lt_of_lt_mul (by rw [← Nat.pow_add]; exact h)
  split <;> omega

theorem le_re {n k j : Nat} (h : 2 ^ (k + j) ≤ n) : 2 ^ j ≤ re n k := by
  unfold re
  have h1 : 2 ^ j ≤ n / 2 ^ k := (Nat.le_div_iff_mul_le (Nat.two_pow_pos k)).2 (by rw [← Nat.pow_add, Nat.add_comm]; exact h)
  omega

/-- the place of the last digit, turned round -/
theorem hasB : ∃ b : Nat, b = 1074 := ⟨1074, rfl⟩
noncomputable def B : Nat := Classical.choose hasB
theorem hB : B = 1074 := Classical.choose_spec hasB

/-- the rung of the number 'n * 2^-2148' -/
noncomputable def rung (n : Nat) : Nat :=
  if n = 0 then 0 else min ((n.log2 - 1126) * 4503599627370496 + re n (B + (n.log2 - 1126))) 9218868437227405312

theorem log2_mul (n t : Nat) (h : n ≠ 0) : (n * 2 ^ t).log2 = n.log2 + t := by
  have h0 : n * 2 ^ t ≠ 0 := Nat.mul_ne_zero h (by have := Nat.two_pow_pos t; omega)
  refine (Nat.log2_eq_iff h0).2 ⟨?_, ?_⟩
  · rw [Nat.pow_add]; exact Nat.mul_le_mul_right _ (Nat.log2_self_le h)
  · have : n.log2 + t + 1 = (n.log2 + 1) + t := by omega
    rw [this, Nat.pow_add]
    exact Nat.mul_lt_mul_of_pos_right Nat.lt_log2_self (Nat.two_pow_pos t)

theorem nearest_eq (neg : Bool) (m : Nat) (e : Int) (he : -2148 ≤ e) :
    double.nearest neg m e = double.word neg (rung (m * 2 ^ (e + 2148).toNat)) := by
  unfold Format.nearest rung
  by_cases hm : m = 0
  · subst hm; simp
  rw [if_neg hm]
  have h0 : m * 2 ^ (e + 2148).toNat ≠ 0 := Nat.mul_ne_zero hm (by have := Nat.two_pow_pos (e + 2148).toNat; omega)
  rw [if_neg h0, log2_mul _ _ hm]
  obtain ⟨t, ht⟩ : ∃ t : Nat, e + 2148 = t := ⟨(e + 2148).toNat, by omega⟩
  have ht' : (e + 2148).toNat = t := by omega
  dsimp only
  rw [lp, bn, ir, cut_even, ht']
  have hf : (double.fractionBits : Int) = 52 := rfl
  rw [hf]
  generalize m.log2 = l
  obtain ⟨s, hs⟩ : ∃ s : Nat, s = l + t - 1126 := ⟨_, rfl⟩
  have hlast : max (e + (l : Int) - 52) (-1074) = (s : Int) - 1074 := by omega
  rw [hlast, ← hs]
  have e1 : ((s : Int) - 1074 - -1074).toNat = s := by omega
  rw [e1]
  congr 3
  by_cases hc : (s : Int) - 1074 ≤ e
  · have := hB
    obtain ⟨u, hu⟩ : ∃ u : Nat, e - ((s : Int) - 1074) = u := ⟨(e - ((s : Int) - 1074)).toNat, by omega⟩
    have a1 : (e - ((s : Int) - 1074)).toNat = u := by omega
    have a2 : ((s : Int) - 1074 - e).toNat = 0 := by omega
    rw [a1, a2, Nat.shiftLeft_eq]
    have a3 : t = u + (B + s) := by omega
    rw [a3, Nat.pow_add, ← Nat.mul_assoc, re_mul]
    have := re_mul (n := m * 2 ^ u) (k := 0)
    simpa using this
  · have := hB
    obtain ⟨u, hu⟩ : ∃ u : Nat, (s : Int) - 1074 - e = u := ⟨((s : Int) - 1074 - e).toNat, by omega⟩
    have a1 : (e - ((s : Int) - 1074)).toNat = 0 := by omega
    have a2 : ((s : Int) - 1074 - e).toNat = u := by omega
    rw [a1, a2, Nat.shiftLeft_eq, Nat.pow_zero, Nat.mul_one]
    have a3 : B + s = u + t := by omega
    rw [a3, re_shift]

theorem min_mono {a b c : Nat} (h : a ≤ b) : min a c ≤ min b c := by omega
theorem key2 (x y a b : Nat) (h2 : x ≤ 2 ^ 53) (h4 : 2 ^ 52 ≤ y) (h1 : a + 1 ≤ b) : a * 4503599627370496 + x ≤ b * 4503599627370496 + y := by omega

theorem rung_mono {n m : Nat} (h : n ≤ m) : rung n ≤ rung m := by
  have := hB
  unfold rung
  by_cases hn : n = 0
  · rw [if_pos hn]; omega
  have hm : m ≠ 0 := by omega
  rw [if_neg hn, if_neg hm]
  have hl : n.log2 ≤ m.log2 := by
    have h1 := Nat.log2_self_le hn
    have h2 : m < 2 ^ (m.log2 + 1) := Nat.lt_log2_self
    have : 2 ^ n.log2 < 2 ^ (m.log2 + 1) := by omega
    have := (Nat.pow_lt_pow_iff_right (by omega : 1 < 2)).1 this
    omega
  have key : (n.log2 - 1126) * 4503599627370496 + re n (B + (n.log2 - 1126)) ≤ (m.log2 - 1126) * 4503599627370496 + re m (B + (m.log2 - 1126)) := by
    by_cases hs : n.log2 - 1126 = m.log2 - 1126
    · rw [hs]; exact Nat.add_le_add_left (re_mono h) _
    · have h1 : n.log2 - 1126 + 1 ≤ m.log2 - 1126 := by omega
      have h2 : re n (B + (n.log2 - 1126)) ≤ 2 ^ 53 := by
        refine re_le ?_
        have h3 : n < 2 ^ (n.log2 + 1) := Nat.lt_log2_self
        exact Nat.lt_of_lt_of_le h3 (Nat.pow_le_pow_right (by omega) (by omega))
      have h4 : 2 ^ 52 ≤ re m (B + (m.log2 - 1126)) := by
        refine le_re ?_
        have h5 := Nat.log2_self_le hm
        have : B + (m.log2 - 1126) + 52 = m.log2 := by omega
        rw [this]; exact h5
      exact key2 _ _ _ _ h2 h4 h1
  exact min_mono key

theorem rung_le (n : Nat) : rung n ≤ 9218868437227405312 := by
  unfold rung; split <;> omega


theorem log2_of {y : Nat} (h1 : 2 ^ 52 ≤ y) (h2 : y < 2 ^ 53) : y.log2 = 52 :=
  (Nat.log2_eq_iff (by omega)).2 ⟨h1, h2⟩

theorem rung_mk {y s : Nat} (h1 : 2 ^ 52 ≤ y) (h2 : y < 2 ^ 53) (hs : s ≤ 2045) : rung (y * 2 ^ s * 2 ^ B) = s * 4503599627370496 + y := by
  have hy : y ≠ 0 := by omega
  have e : y * 2 ^ s * 2 ^ B = y * 2 ^ (B + s) := by rw [Nat.mul_assoc, ← Nat.pow_add, Nat.add_comm s]
  have := hB
  have h0 : y * 2 ^ (B + s) ≠ 0 := Nat.mul_ne_zero hy (by have := Nat.two_pow_pos (B + s); omega)
  unfold rung
  rw [e, if_neg h0, log2_mul _ _ hy, log2_of h1 h2]
  have e2 : 52 + (B + s) - 1126 = s := by omega
  rw [e2, re_mul]
  omega

theorem rung_sub {y : Nat} (h : y < 2 ^ 52) : rung (y * 2 ^ B) = y := by
  by_cases hy : y = 0
  · subst hy; simp [rung]
  have h0 : y * 2 ^ B ≠ 0 := Nat.mul_ne_zero hy (by have := Nat.two_pow_pos B; omega)
  have hl : y.log2 < 52 := (Nat.log2_lt hy).2 h
  unfold rung
  rw [if_neg h0, log2_mul _ _ hy]
  have := hB
  have e2 : y.log2 + B - 1126 = 0 := by omega
  rw [e2, Nat.add_zero, re_mul]
  omega

theorem read_low {w : Nat} (h : w < 9223372036854775808) : double.read w =
    if w < 4503599627370496 then .number false w (-1074)
    else if w < 9218868437227405312 then .number false (4503599627370496 + w % 4503599627370496) (-1074 + (w / 4503599627370496 - 1 : Nat))
    else if w = 9218868437227405312 then .infinity false else .nan false (w - 9218868437227405312) := by
  unfold Format.read
  rw [lp, bn, ir, sw, Nat.div_eq_of_lt h, Nat.mod_eq_of_lt h]
  rfl

theorem read_sub {y : Nat} (h : y < 2 ^ 52) : double.read y = .number false y (-1074) := by
  rw [read_low (by omega), if_pos (by omega)]

theorem read_mk {y s : Nat} (h1 : 2 ^ 52 ≤ y) (h2 : y < 2 ^ 53) (hs : s ≤ 2045) : double.read (s * 4503599627370496 + y) = .number false y (-1074 + (s : Int)) := by
  rw [read_low (by omega), if_neg (by omega), if_pos (by omega)]
  have e1 : (s * 4503599627370496 + y) / 4503599627370496 - 1 = s := by omega
  have e2 : 4503599627370496 + (s * 4503599627370496 + y) % 4503599627370496 = y := by omega
  rw [e1, e2]

/-- the word w is the number N * 2^-1074, not below 0 -/
def IsNum (w N : Nat) : Prop := w < 9218868437227405312 ∧ ∃ (m : Nat) (e : Int), double.read w = .number false m e ∧ -1074 ≤ e ∧ m * 2 ^ (e + 1074).toNat = N

theorem isNum_mk {y s : Nat} (h1 : 2 ^ 52 ≤ y) (h2 : y < 2 ^ 53) (hs : s ≤ 2045) : IsNum (s * 4503599627370496 + y) (y * 2 ^ s) :=
  ⟨by omega, y, _, read_mk h1 h2 hs, by omega, by rw [show ((-1074 : Int) + (s : Int) + 1074).toNat = s from by omega]⟩

theorem isNum_sub {y : Nat} (h : y < 2 ^ 52) : IsNum y y :=
  ⟨by omega, y, _, read_sub h, by omega, by simp⟩

theorem IsNum.fun {w N M : Nat} (h : IsNum w N) (k : IsNum w M) : N = M := by
  obtain ⟨_, m, e, hr, _, hv⟩ := h
  obtain ⟨_, m', e', hr', _, hv'⟩ := k
  rw [hr] at hr'
  cases hr'
  exact hv.symm.trans hv'

/-- each finite word that is not below 0 is a number, and the nearest one to it -/
theorem isNum_of_lt {w : Nat} (h : w < 9218868437227405312) : ∃ N, IsNum w N ∧ rung (N * 2 ^ B) = w := by
  by_cases hs : w < 2 ^ 52
  · exact ⟨w, isNum_sub hs, rung_sub hs⟩
  · have e : (w / 4503599627370496 - 1) * 4503599627370496 + (4503599627370496 + w % 4503599627370496) = w := by omega
    have a1 : 2 ^ 52 ≤ 4503599627370496 + w % 4503599627370496 := by omega
    have a2 : 4503599627370496 + w % 4503599627370496 < 2 ^ 53 := by omega
    have a3 : w / 4503599627370496 - 1 ≤ 2045 := by omega
    refine ⟨_, ?_, (rung_mk a1 a2 a3).trans e⟩
    have := isNum_mk a1 a2 a3
    rw [e] at this
    exact this

theorem IsNum.back {w N : Nat} (h : IsNum w N) : rung (N * 2 ^ B) = w := by
  obtain ⟨M, hM, hr⟩ := isNum_of_lt h.1
  rw [h.fun hM]; exact hr

/-- a number of 53 digits is a word -/
theorem isNum_rung {m s : Nat} (hm : m < 2 ^ 53) (hs : s ≤ 1993) : IsNum (rung (m * 2 ^ s * 2 ^ B)) (m * 2 ^ s) := by
  by_cases h0 : m = 0
  · subst h0
    have : rung (0 * 2 ^ s * 2 ^ B) = 0 := by simp [rung]
    rw [this, Nat.zero_mul]
    exact isNum_sub (by omega)
  have hl : m.log2 ≤ 52 := by
    have := (Nat.log2_lt h0).2 hm
    omega
  by_cases hc : m.log2 + s < 52
  · have hlt : m * 2 ^ s < 2 ^ 52 := by
      have h1 : m * 2 ^ s ≠ 0 := Nat.mul_ne_zero h0 (by have := Nat.two_pow_pos s; omega)
      refine (Nat.log2_lt h1).1 ?_
      rw [log2_mul _ _ h0]; exact hc
    rw [rung_sub hlt]
    exact isNum_sub hlt
  · have e : m * 2 ^ s = m * 2 ^ (52 - m.log2) * 2 ^ (m.log2 + s - 52) := by
      rw [Nat.mul_assoc, ← Nat.pow_add]
      congr 2; omega
    have a1 : 2 ^ 52 ≤ m * 2 ^ (52 - m.log2) := by
      have h1 := Nat.mul_le_mul_right (2 ^ (52 - m.log2)) (Nat.log2_self_le h0)
      rw [← Nat.pow_add, show m.log2 + (52 - m.log2) = 52 from by omega] at h1
      exact h1
    have a2 : m * 2 ^ (52 - m.log2) < 2 ^ 53 := by
      have h1 : m < 2 ^ (m.log2 + 1) := Nat.lt_log2_self
      have h2 := Nat.mul_lt_mul_of_pos_right h1 (Nat.two_pow_pos (52 - m.log2))
      rw [← Nat.pow_add, show m.log2 + 1 + (52 - m.log2) = 53 from by omega] at h2
      exact h2
    rw [e, rung_mk a1 a2 (by omega)]
    exact isNum_mk a1 a2 (by omega)

/-- the word of a whole number -/
noncomputable def ofN (n : Nat) : Nat := rung (n * 2 ^ B * 2 ^ B)

theorem ofN_num {n : Nat} (h : n < 2 ^ 53) : IsNum (ofN n) (n * 2 ^ B) := isNum_rung h (by have := hB; omega)

theorem word_false (r : Nat) : double.word false r = r := rfl

theorem floatOfInt_eq (n : Nat) : Go.floatOfInt .f64 (n : Int) = ofN n := by
  show double.write (.number (decide ((n : Int) < 0)) (n : Int).natAbs 0) = _
  have : decide ((n : Int) < 0) = false := by simp
  rw [this]
  show double.nearest false (n : Int).natAbs 0 = _
  rw [nearest_eq _ _ _ (by omega), word_false]
  unfold ofN
  rw [Nat.mul_assoc, ← Nat.pow_add, show ((0 : Int) + 2148).toNat = B + B from by have := hB; omega]
  rfl


theorem units (m : Nat) {e b : Int} (h : b ≤ e) (hb : -1074 ≤ b) : m * 2 ^ (e + 1074).toNat = m <<< (e - b).toNat * 2 ^ (b + 1074).toNat := by
  rw [Nat.shiftLeft_eq, Nat.mul_assoc, ← Nat.pow_add]
  congr 2
  omega

/-- a number with its sign, in units of 2^-1074 -/
def sg (s : Bool) (n : Nat) : Int := if s then -(n : Int) else n
def SNum (w : Nat) (s : Bool) (N : Nat) : Prop := ∃ (m : Nat) (e : Int), double.read w = .number s m e ∧ -1074 ≤ e ∧ m * 2 ^ (e + 1074).toNat = N

theorem IsNum.s {w N : Nat} (h : IsNum w N) : SNum w false N := h.2

theorem snum_order {w v N M : Nat} {s t : Bool} (h : SNum w s N) (k : SNum v t M) : double.order w v = some (compare (sg s N) (sg t M)) := by
  obtain ⟨m, e, hr, he, hv⟩ := h
  obtain ⟨m', e', hr', he', hv'⟩ := k
  unfold Format.order Datum.order
  rw [hr, hr']
  dsimp only
  congr 1
  rw [units m (Int.min_le_left e e') (by omega)] at hv
  rw [units m' (Int.min_le_right e e') (by omega)] at hv'
  have hs : ∀ (q : Bool) (a b : Nat), signed q a b = sg q (a <<< b) := fun _ _ _ => rfl
  rw [hs, hs]
  generalize m <<< (e - min e e').toNat = x at *
  generalize m' <<< (e' - min e e').toNat = y at *
  have hp := Nat.two_pow_pos (min e e' + 1074).toNat
  generalize 2 ^ (min e e' + 1074).toNat = p at *
  subst hv; subst hv'
  have hm : ∀ (q : Bool) (a : Nat), sg q (a * p) = sg q a * (p : Int) := by
    intro q a
    cases q <;> simp [sg, Int.neg_mul]
  rw [hm, hm]
  generalize sg s x = a
  generalize sg t y = b
  have hp' : (0 : Int) < p := by omega
  rcases Int.lt_trichotomy a b with h | h | h
  · rw [Int.compare_eq_lt.2 h, Int.compare_eq_lt.2 (Int.mul_lt_mul_of_pos_right h hp')]
  · rw [Int.compare_eq_eq.2 h, Int.compare_eq_eq.2 (by rw [h])]
  · rw [Int.compare_eq_gt.2 h, Int.compare_eq_gt.2 (Int.mul_lt_mul_of_pos_right h hp')]

theorem num_order {w v N M : Nat} (h : IsNum w N) (k : IsNum v M) : double.order w v = some (compare (N : Int) (M : Int)) := snum_order h.s k.s

theorem num_lt {w v N M : Nat} (h : IsNum w N) (k : IsNum v M) : double.order w v = some .lt ↔ N < M := by
  rw [num_order h k, Option.some_inj, Int.compare_eq_lt]; omega
theorem num_eq {w v N M : Nat} (h : IsNum w N) (k : IsNum v M) : double.order w v = some .eq ↔ N = M := by
  rw [num_order h k, Option.some_inj, Int.compare_eq_eq]; omega
theorem num_gt {w v N M : Nat} (h : IsNum w N) (k : IsNum v M) : double.order w v = some .gt ↔ M < N := by
  rw [num_order h k, Option.some_inj, Int.compare_eq_gt]; omega

theorem num_mul {w v N M : Nat} (h : IsNum w N) (k : IsNum v M) : double.mul w v = some (rung (N * M)) := by
  obtain ⟨_, m, e, hr, he, hv⟩ := h
  obtain ⟨_, m', e', hr', he', hv'⟩ := k
  unfold Format.mul Datum.product
  rw [hr, hr']
  simp only [Option.map_some, Format.write, Bool.xor_self]
  rw [nearest_eq _ _ _ (by omega), word_false]
  congr 2
  subst hv; subst hv'
  rw [show (e + e' + 2148).toNat = (e + 1074).toNat + (e' + 1074).toNat from by omega, Nat.pow_add]
  simp only [Nat.mul_assoc, Nat.mul_left_comm]

theorem num_toInt {w N : Nat} (h : IsNum w N) : (double.read w).toInt .zero = some ((N / 2 ^ B : Nat) : Int) := by
  obtain ⟨_, m, e, hr, he, hv⟩ := h
  unfold Datum.toInt Datum.integral
  rw [hr]
  simp only [cut_zero]
  unfold signed
  simp only [Bool.false_eq_true, if_false, Nat.shiftLeft_zero]
  subst hv
  have := hB
  congr 2
  rw [Nat.shiftLeft_eq]
  by_cases hc : 0 ≤ e
  · rw [show (-e).toNat = 0 from by omega, show (e + 1074).toNat = e.toNat + B from by omega, Nat.pow_add, ← Nat.mul_assoc, Nat.mul_div_cancel _ (Nat.two_pow_pos B)]
    simp
  · rw [show e.toNat = 0 from by omega, show B = (-e).toNat + (e + 1074).toNat from by omega, Nat.pow_add, Nat.mul_div_mul_right _ _ (Nat.two_pow_pos _)]
    simp

/-- each word is a number, an infinity, or none -/
theorem read_cases (w : Nat) : (∃ s N, SNum w s N) ∨ (∃ s, double.read w = .infinity s) ∨ (∃ s f, double.read w = .nan s f) := by
  unfold SNum Format.read
  rw [lp, bn, ir, sw]
  dsimp only
  generalize (w / 9223372036854775808 % 2 == 1) = s
  generalize w % 9223372036854775808 = r
  by_cases h1 : r < 4503599627370496
  · rw [if_pos h1]; exact .inl ⟨s, _, r, _, rfl, by omega, rfl⟩
  rw [if_neg h1]
  by_cases h2 : r < 9218868437227405312
  · rw [if_pos h2]; exact .inl ⟨s, _, _, _, rfl, by omega, rfl⟩
  rw [if_neg h2]
  by_cases h3 : r = 9218868437227405312
  · rw [if_pos h3]; exact .inr (.inl ⟨s, rfl⟩)
  · rw [if_neg h3]; exact .inr (.inr ⟨s, _, rfl⟩)

def lt (d c : Nat) : Bool := double.order d c == some .lt

/-- the whole number of a delay: of what is below 0 it is 0 -/
def trunc (d : Nat) : Int := if double.order d 0 == some .lt then 0 else ((double.read d).toInt .zero).getD 0

theorem zero_num : IsNum 0 0 := isNum_sub (by omega)

theorem toInt_zero (d : Nat) (s : Bool) (N : Nat) (h : SNum d s N) : (double.read d).toInt .zero = some (sg s (N / 2 ^ B)) := by
  obtain ⟨m, e, hr, he, hv⟩ := h
  unfold Datum.toInt Datum.integral
  rw [hr]
  simp only [cut_zero]
  unfold signed
  simp only [Nat.shiftLeft_zero]
  subst hv
  have := hB
  have hx : m <<< e.toNat / 2 ^ (-e).toNat = m * 2 ^ (e + 1074).toNat / 2 ^ B := by
    rw [Nat.shiftLeft_eq]
    by_cases hc : 0 ≤ e
    · rw [show (-e).toNat = 0 from by omega, show (e + 1074).toNat = e.toNat + B from by omega, Nat.pow_add, ← Nat.mul_assoc, Nat.mul_div_cancel _ (Nat.two_pow_pos B)]
      simp
    · rw [show e.toNat = 0 from by omega, show B = (-e).toNat + (e + 1074).toNat from by omega, Nat.pow_add, Nat.mul_div_mul_right _ _ (Nat.two_pow_pos _)]
      simp
  rw [hx]
  rfl

/-- what a number below the cap gives -/
theorem below_cap {d c : Nat} (hc : c < 2 ^ 53) (h : lt d (ofN c) = true) :
    (double.order d 0 = some .lt ∧ trunc d = 0) ∨
    (double.order d 0 ≠ some .lt ∧ double.order d 0 ≠ none ∧ (double.read d).toInt .zero = some (trunc d) ∧ 0 ≤ trunc d ∧ trunc d < c ∧
      ∃ s N, SNum d s N ∧ (s = true → N = 0)) := by
  have hcw := ofN_num hc
  have h' : double.order d (ofN c) = some .lt := by simpa [lt] using h
  have h0 : double.order d 0 = some .lt → trunc d = 0 := fun e => by unfold trunc; rw [e]; rfl
  rcases read_cases d with ⟨s, N, hn⟩ | ⟨s, hi⟩ | ⟨s, f, hi⟩
  · by_cases hz : double.order d 0 = some .lt
    · exact .inl ⟨hz, h0 hz⟩
    · have ho := snum_order hn zero_num.s
      have hk := snum_order hn hcw.s
      rw [h'] at hk
      have hlt : sg s N < sg false (c * 2 ^ B) := Int.compare_eq_lt.1 (Option.some.inj hk).symm
      have hge : 0 ≤ sg s N := by
        have : ¬ sg s N < sg false 0 := fun x => hz (ho.trans (congrArg some (Int.compare_eq_lt.2 x)))
        simp only [sg, Bool.false_eq_true, if_false] at this ⊢
        omega
      have hs : s = true → N = 0 := by
        intro e; subst e
        simp only [sg, if_true] at hge
        omega
      have ht := toInt_zero d s N hn
      have htr : trunc d = sg s (N / 2 ^ B) := by
        unfold trunc
        have : (double.order d 0 == some Ordering.lt) = false := by simpa using hz
        rw [this, ht]; rfl
      rw [← htr] at ht
      refine .inr ⟨hz, by rw [ho]; simp, ht, ?_, ?_, s, N, hn, hs⟩
      · rw [htr]
        cases s
        · simp only [sg, Bool.false_eq_true, if_false]; exact Int.natCast_nonneg _
        · rw [hs rfl]; simp [sg]
      · rw [htr]
        have hp := Nat.two_pow_pos B
        simp only [sg, Bool.false_eq_true, if_false] at hlt
        cases s
        · simp only [sg, Bool.false_eq_true, if_false] at hlt ⊢
          have : N / 2 ^ B < c := (Nat.div_lt_iff_lt_mul hp).2 (by omega)
          omega
        · have := hs rfl
          subst this
          simp only [sg, if_true] at hlt ⊢
          have : c ≠ 0 := by intro e; subst e; simp at hlt
          simp; omega
  · obtain ⟨_, m', e', hr', he', hv'⟩ := hcw
    unfold Format.order Datum.order at h'
    rw [hi, hr'] at h'
    cases s
    · simp at h'
    · have hz : double.order d 0 = some .lt := by
        unfold Format.order Datum.order
        rw [hi, show double.read 0 = .number false 0 (-1074) from read_sub (by omega)]
        rfl
      exact .inl ⟨hz, h0 hz⟩
  · unfold Format.order Datum.order at h'
    rw [hi] at h'
    simp at h'

theorem trunc_bounds {d c : Nat} (hc : c < 2 ^ 53) (h : lt d (ofN c) = true) : 0 ≤ trunc d ∧ trunc d ≤ c := by
  rcases below_cap hc h with ⟨_, e⟩ | ⟨_, _, _, a, b, _⟩
  · rw [e]; omega
  · omega

theorem trunc_num {d N : Nat} (h : IsNum d N) : trunc d = ((N / 2 ^ B : Nat) : Int) := by
  unfold trunc
  have : ¬ double.order d 0 = some .lt := fun e => by have := (num_lt h zero_num).1 e; omega
  have e : (double.order d 0 == some Ordering.lt) = false := by simpa using this
  rw [e, toInt_zero d false N h.s]; rfl

theorem trunc_ofN {n : Nat} (h : n < 2 ^ 53) : trunc (ofN n) = n := by
  rw [trunc_num (ofN_num h), Nat.mul_div_cancel _ (Nat.two_pow_pos B)]

theorem lt_ofN {a c : Nat} (ha : a < 2 ^ 53) (hc : c < 2 ^ 53) : lt (ofN a) (ofN c) = decide (a < c) := by
  unfold lt
  have h := num_lt (ofN_num ha) (ofN_num hc)
  rw [Nat.mul_lt_mul_right (Nat.two_pow_pos B)] at h
  by_cases e : a < c
  · rw [h.2 e]; simp [e]
  · have : double.order (ofN a) (ofN c) ≠ some .lt := fun x => e (h.1 x)
    simp [e, this]

theorem mul_ofN {a b : Nat} (ha : a < 2 ^ 53) (hb : b < 2 ^ 53) : double.mul (ofN a) (ofN b) = some (ofN (a * b)) := by
  rw [num_mul (ofN_num ha) (ofN_num hb)]
  unfold ofN
  congr 2
  simp only [Nat.mul_assoc, Nat.mul_left_comm]

/-- the delay: r tries more from d on -/
def go (cw F : Nat) (cap : Int) : Nat → Nat → Int
  | 0, d => if lt d cw then trunc d else cap
  | r + 1, d => if lt d cw then (match double.mul d F with | none => cap | some d' => go cw F cap r d') else cap

noncomputable def next (base cap : Nat) (F : Nat) (k : Nat) : Int := go (ofN cap) F cap (min k 1000) (ofN base)

theorem go_bounds {c F : Nat} (hc : c < 2 ^ 53) (r : Nat) : ∀ d, 0 ≤ go (ofN c) F c r d ∧ go (ofN c) F c r d ≤ c := by
  induction r with
  | zero =>
    intro d
    unfold go
    split
    · exact trunc_bounds hc ‹_›
    · omega
  | succ r ih =>
    intro d
    unfold go
    split
    · split
      · omega
      · exact ih _
    · omega

theorem next_bounds {b c F : Nat} (hc : c < 2 ^ 53) (k : Nat) : 0 ≤ next b c F k ∧ next b c F k ≤ c := go_bounds hc _ _

theorem next_zero {b c F : Nat} (hb : b < 2 ^ 53) (hc : c < 2 ^ 53) : next b c F 0 = (min b c : Nat) := by
  unfold next go
  simp only [Nat.zero_min]
  rw [lt_ofN hb hc, trunc_ofN hb]
  by_cases h : b < c
  · simp [h]; omega
  · simp [h]; omega

/-- of a whole factor the delay is exact -/
theorem go_whole {c f : Nat} (hc : c ≤ 2 ^ 40) (h1 : 1 ≤ f) (h9 : f ≤ 9) (r : Nat) : ∀ a, a < 2 ^ 53 → go (ofN c) (ofN f) c r (ofN a) = (min (a * f ^ r) c : Nat) := by
  induction r with
  | zero =>
    intro a ha
    unfold go
    rw [lt_ofN ha (by omega), trunc_ofN ha]
    by_cases h : a < c
    · simp [h]; omega
    · simp [h]; omega
  | succ r ih =>
    intro a ha
    unfold go
    rw [lt_ofN ha (by omega), mul_ofN ha (by omega)]
    by_cases h : a < c
    · simp only [h, decide_true, if_true]
      have : a * f ≤ 2 ^ 40 * 9 := Nat.mul_le_mul (by omega) h9
      rw [ih _ (by omega), Nat.pow_succ, Nat.mul_assoc, Nat.mul_comm f]
    · simp only [h, decide_false, Bool.false_eq_true, if_false]
      have : 1 ≤ f ^ (r + 1) := Nat.one_le_pow _ _ h1
      have : a * 1 ≤ a * f ^ (r + 1) := Nat.mul_le_mul_left _ this
      omega

theorem next_whole {b c f : Nat} (hb : b ≤ 2 ^ 40) (hc : c ≤ 2 ^ 40) (h1 : 1 ≤ f) (h9 : f ≤ 9) (k : Nat) : next b c (ofN f) k = (min (b * f ^ min k 1000) c : Nat) :=
  go_whole hc h1 h9 _ _ (by omega)

theorem ofN_word {n j : Nat} (h1 : 2 ^ 52 ≤ n * 2 ^ j) (h2 : n * 2 ^ j < 2 ^ 53) (hj : j ≤ 52) : ofN n = (1074 - j) * 4503599627370496 + n * 2 ^ j := by
  have hb := hB
  have h := rung_mk (s := B - j) h1 h2 (by omega)
  rw [Nat.mul_assoc n, ← Nat.pow_add, show j + (B - j) = B from by omega] at h
  unfold ofN
  rw [h]
  congr 2
  omega

theorem ofN_zero : ofN 0 = 0 := by unfold ofN; rw [Nat.zero_mul, Nat.zero_mul]; rfl
theorem ofN_1 : ofN 1 = 4607182418800017408 := ofN_word (j := 52) (by decide) (by decide) (by decide)
theorem ofN_2 : ofN 2 = 4611686018427387904 := ofN_word (j := 51) (by decide) (by decide) (by decide)
theorem ofN_3 : ofN 3 = 4613937818241073152 := ofN_word (j := 51) (by decide) (by decide) (by decide)
theorem ofN_20 : ofN 20 = 4626322717216342016 := ofN_word (j := 48) (by decide) (by decide) (by decide)

/-- a factor from 1 on -/
def geOne (F : Nat) : Bool := double.order F 4607182418800017408 == some .gt || double.order F 4607182418800017408 == some .eq

theorem mul_geOne {d N F : Nat} (h : IsNum d N) (hF : geOne F = true) :
    double.mul d F = none ∨ ∃ d', double.mul d F = some d' ∧ (d' = 9218868437227405312 ∨ ∃ N', IsNum d' N' ∧ N ≤ N') := by
  have one := ofN_num (n := 1) (by decide)
  rw [ofN_1, Nat.one_mul] at one
  rcases read_cases F with ⟨s, M, hn⟩ | ⟨s, hi⟩ | ⟨s, f, hi⟩
  · have ho := snum_order hn one.s
    have hge : sg false (2 ^ B) ≤ sg s M := by
      unfold geOne at hF
      rw [ho] at hF
      rcases Int.lt_trichotomy (sg s M) (sg false (2 ^ B)) with c | c | c
      · rw [Int.compare_eq_lt.2 c] at hF; simp at hF
      · omega
      · omega
    have hp := Nat.two_pow_pos B
    have hs : s = false := by
      cases s
      · rfl
      · simp only [sg, if_true, Bool.false_eq_true, if_false] at hge; omega
    subst hs
    have hM : 2 ^ B ≤ M := by simp only [sg, Bool.false_eq_true, if_false] at hge; omega
    right
    obtain ⟨m, e, hr, he, hv⟩ := h.s
    obtain ⟨m', e', hr', he', hv'⟩ := hn
    have hmul : double.mul d F = some (rung (N * M)) := by
      unfold Format.mul Datum.product
      rw [hr, hr']
      simp only [Option.map_some, Format.write, Bool.xor_self]
      rw [nearest_eq _ _ _ (by omega), word_false]
      congr 2
      subst hv; subst hv'
      rw [show (e + e' + 2148).toNat = (e + 1074).toNat + (e' + 1074).toNat from by omega, Nat.pow_add]
      simp only [Nat.mul_assoc, Nat.mul_left_comm]
    refine ⟨_, hmul, ?_⟩
    by_cases hinf : rung (N * M) = 9218868437227405312
    · exact .inl hinf
    · right
      obtain ⟨N', hN', hb'⟩ := isNum_of_lt (Nat.lt_of_le_of_ne (rung_le (N * M)) hinf)
      refine ⟨N', hN', ?_⟩
      have h1 : d ≤ rung (N * M) := by
        rw [← h.back]; exact rung_mono (Nat.mul_le_mul_left _ hM)
      rcases Nat.lt_or_ge N' N with c | c
      · have h2 : rung (N' * 2 ^ B) ≤ rung (N * 2 ^ B) := rung_mono (Nat.mul_le_mul_right _ (Nat.le_of_lt c))
        rw [hb', h.back] at h2
        have h3 : d = rung (N * M) := Nat.le_antisymm h1 h2
        rw [← h3] at hN'
        have := hN'.fun h
        omega
      · exact c
  · obtain ⟨m, e, hr, he, hv⟩ := h.s
    cases s
    · unfold Format.mul Datum.product
      rw [hr, hi]
      by_cases hm : m = 0
      · subst hm; left; simp
      · right
        refine ⟨9218868437227405312, ?_, .inl rfl⟩
        simp only [hm, if_false, Option.map_some, Format.write, Bool.xor_self]
        rw [ir]; rfl
    · exfalso
      unfold geOne Format.order Datum.order at hF
      rw [hi, show double.read 4607182418800017408 = .number false 4503599627370496 (-52) from by decide] at hF
      simp at hF
  · exfalso
    unfold geOne Format.order Datum.order at hF
    rw [hi] at hF
    simp at hF

theorem lt_inf (c : Nat) : lt 9218868437227405312 c = false := by
  unfold lt Format.order Datum.order
  rw [show double.read 9218868437227405312 = .infinity false from by decide]
  rcases double.read c with ⟨s, m, e⟩ | s | ⟨s, f⟩
  · simp
  · cases s <;> simp [compare, compareOfLessAndEq]
  · simp

theorem trunc_mono {d d' N N' : Nat} (h : IsNum d N) (h' : IsNum d' N') (hl : N ≤ N') : trunc d ≤ trunc d' := by
  rw [trunc_num h, trunc_num h']
  exact Int.ofNat_le.2 (Nat.div_le_div_right hl)

theorem go_inf (cw F : Nat) (cap : Int) (r : Nat) : go cw F cap r 9218868437227405312 = cap := by
  cases r <;> unfold go <;> simp [lt_inf]

theorem go_mono {c F : Nat} (hc : c < 2 ^ 53) (hF : geOne F = true) (r : Nat) : ∀ d, (d = 9218868437227405312 ∨ ∃ N, IsNum d N) → go (ofN c) F c r d ≤ go (ofN c) F c (r + 1) d := by
  induction r with
  | zero =>
    intro d hd
    rcases hd with rfl | ⟨N, hN⟩
    · rw [go_inf, go_inf]; omega
    have hb := go_bounds (F := F) hc 0 d
    unfold go
    by_cases hl : lt d (ofN c) = true
    · rw [if_pos hl, if_pos hl]
      have ht := trunc_bounds hc hl
      rcases mul_geOne hN hF with hm | ⟨d', hm, rfl | ⟨N', hN', hle⟩⟩
      · rw [hm]; exact ht.2
      · rw [hm]; simp only [go_inf]; exact ht.2
      · rw [hm]
        simp only
        unfold go
        split
        · exact trunc_mono hN hN' hle
        · exact ht.2
    · rw [if_neg hl, if_neg hl]; omega
  | succ r ih =>
    intro d hd
    rcases hd with rfl | ⟨N, hN⟩
    · rw [go_inf, go_inf]; omega
    rw [go, go]
    by_cases hl : lt d (ofN c) = true
    · rw [if_pos hl, if_pos hl]
      rcases mul_geOne hN hF with hm | ⟨d', hm, hd'⟩
      · rw [hm]; exact Int.le_refl _
      · rw [hm]
        refine ih d' ?_
        rcases hd' with e | ⟨N', hN', _⟩
        · exact .inl e
        · exact .inr ⟨N', hN'⟩
    · rw [if_neg hl, if_neg hl]; omega

theorem next_mono {b c F : Nat} (hb : b < 2 ^ 53) (hc : c < 2 ^ 53) (hF : geOne F = true) (k : Nat) : next b c F k ≤ next b c F (k + 1) := by
  unfold next
  by_cases hk : k + 1 ≤ 1000
  · rw [Nat.min_eq_left hk, Nat.min_eq_left (by omega)]
    exact go_mono hc hF k _ (.inr ⟨_, ofN_num hb⟩)
  · rw [Nat.min_eq_right (by omega), Nat.min_eq_right (by omega)]; exact Int.le_refl _

/-- of a factor that is no number, from the first try on: the cap -/
theorem next_nan {b c F : Nat} (hF : ∀ s m e, double.read F ≠ .number s m e) (hi : double.read F ≠ .infinity true) (hb : b < 2 ^ 53) (k : Nat) (hk : 1 ≤ k) : next b c F k = c := by
  unfold next
  obtain ⟨r, hr⟩ : ∃ r, min k 1000 = r + 1 := ⟨min k 1000 - 1, by omega⟩
  rw [hr, go]
  split
  · obtain ⟨m, e, hr, he, hv⟩ := (ofN_num hb).s
    unfold Format.mul Datum.product
    rw [hr]
    rcases hx : double.read F with ⟨s, m', e'⟩ | s | ⟨s, f⟩
    · exact (hF _ _ _ hx).elim
    · cases s
      · by_cases hm : m = 0
        · subst hm; simp
        · simp only [hm, if_false, Option.map_some, Format.write, Bool.xor_self]
          rw [ir]
          exact go_inf _ _ _ _
      · exact (hi hx).elim
    · simp
  · rfl

/-- of a nought of either sign: 0 -/
theorem go_nought {c F : Nat} (hc0 : 0 < c) (hc : c < 2 ^ 53) (hF : F = 0 ∨ F = 9223372036854775808) (r : Nat) : ∀ d, (d = 0 ∨ d = 9223372036854775808) → go (ofN c) F c r d = 0 := by
  have rd : ∀ d, (d = 0 ∨ d = 9223372036854775808) → ∃ s, double.read d = .number s 0 (-1074) := by
    intro d hd
    rcases hd with rfl | rfl
    · exact ⟨false, by decide⟩
    · exact ⟨true, by decide⟩
  have sn : ∀ d, (d = 0 ∨ d = 9223372036854775808) → ∃ s, SNum d s 0 := by
    intro d hd
    obtain ⟨s, h⟩ := rd d hd
    exact ⟨s, 0, _, h, by omega, by simp⟩
  have hl : ∀ d, (d = 0 ∨ d = 9223372036854775808) → lt d (ofN c) = true := by
    intro d hd
    obtain ⟨s, h⟩ := sn d hd
    have := snum_order h (ofN_num hc).s
    unfold lt
    rw [this]
    have hp := Nat.mul_pos hc0 (Nat.two_pow_pos B)
    have : sg s 0 < sg false (c * 2 ^ B) := by
      simp only [sg, Bool.false_eq_true, if_false]
      cases s
      · simp only [Bool.false_eq_true, if_false]; omega
      · simp only [if_true]; omega
    rw [Int.compare_eq_lt.2 this]
    rfl
  induction r with
  | zero =>
    intro d hd
    unfold go
    rw [if_pos (hl d hd)]
    obtain ⟨s, h⟩ := sn d hd
    unfold trunc
    rw [toInt_zero d s 0 h, Nat.zero_div]
    split
    · rfl
    · cases s <;> rfl
  | succ r ih =>
    intro d hd
    rw [go, if_pos (hl d hd)]
    have hm : ∃ d', double.mul d F = some d' ∧ (d' = 0 ∨ d' = 9223372036854775808) := by
      obtain ⟨s, h⟩ := rd d hd
      obtain ⟨t, h'⟩ := rd F hF
      unfold Format.mul Datum.product
      rw [h, h']
      refine ⟨double.word (s ^^ t) 0, rfl, ?_⟩
      unfold Format.word
      rw [sw]
      cases (s ^^ t)
      · exact .inl rfl
      · exact .inr rfl
    obtain ⟨d', hm, hd'⟩ := hm
    rw [hm]
    exact ih d' hd'

theorem next_nought {b c F : Nat} (hb : b < 2 ^ 53) (hc : c < 2 ^ 53) (hF : F = 0 ∨ F = 9223372036854775808) (k : Nat) (hk : 1 ≤ k) : next b c F k = if b < c then 0 else (c : Int) := by
  unfold next
  obtain ⟨r, hr⟩ : ∃ r, min k 1000 = r + 1 := ⟨min k 1000 - 1, by omega⟩
  rw [hr, go, lt_ofN hb hc]
  by_cases h : b < c
  · simp only [h, decide_true, if_true]
    obtain ⟨m, e, hr, he, hv⟩ := (ofN_num hb).s
    have hm : ∃ d', double.mul (ofN b) F = some d' ∧ (d' = 0 ∨ d' = 9223372036854775808) := by
      have : ∃ t, double.read F = .number t 0 (-1074) := by
        rcases hF with rfl | rfl
        · exact ⟨false, by decide⟩
        · exact ⟨true, by decide⟩
      obtain ⟨t, h'⟩ := this
      unfold Format.mul Datum.product
      rw [hr, h']
      refine ⟨double.word (false ^^ t) 0, by simp [Format.write, Format.nearest], ?_⟩
      unfold Format.word
      rw [sw]
      cases (false ^^ t)
      · exact .inl rfl
      · exact .inr rfl
    obtain ⟨d', hm, hd'⟩ := hm
    rw [hm]
    exact go_nought (by omega) hc hF r d' hd'
  · simp [h]

theorem read_high {w : Nat} (h : w < 9218868437227405312) {m : Nat} {e : Int} (hr : double.read w = .number false m e) :
    double.read (9223372036854775808 + w) = .number true m e := by
  rw [read_low (by omega)] at hr
  unfold Format.read
  rw [lp, bn, ir, sw]
  have e1 : (9223372036854775808 + w) / 9223372036854775808 % 2 = 1 := by omega
  have e2 : (9223372036854775808 + w) % 9223372036854775808 = w := by omega
  dsimp only
  rw [e1, e2]
  by_cases h1 : w < 4503599627370496
  · rw [if_pos h1] at hr ⊢; cases hr; rfl
  · rw [if_neg h1, if_pos h] at hr ⊢; cases hr; rfl

/-- the word of a sign and a finite rung -/
def sw2 (s : Bool) (r : Nat) : Nat := if s then 9223372036854775808 + r else r
theorem word_eq (s : Bool) (r : Nat) : double.word s r = sw2 s r := by unfold Format.word sw2; rw [sw]

theorem IsNum.signed {w N : Nat} (h : IsNum w N) (s : Bool) : SNum (sw2 s w) s N := by
  obtain ⟨hw, m, e, hr, he, hv⟩ := h
  cases s
  · exact ⟨m, e, hr, he, hv⟩
  · exact ⟨m, e, read_high hw hr, he, hv⟩

/-- what a word is -/
theorem word_cases (F : Nat) (hF : F < 18446744073709551616) :
    (∃ s f, double.read F = .nan s f) ∨ (∃ s, F = sw2 s 9218868437227405312 ∧ double.read F = .infinity s) ∨ (∃ s w N, F = sw2 s w ∧ IsNum w N) := by
  have hr : F = sw2 (decide (9223372036854775808 ≤ F)) (F % 9223372036854775808) := by
    unfold sw2
    by_cases h : 9223372036854775808 ≤ F
    · simp only [h, decide_true, if_true]; omega
    · simp only [h, decide_false, Bool.false_eq_true, if_false]; omega
  by_cases h2 : F % 9223372036854775808 < 9218868437227405312
  · obtain ⟨N, hN, _⟩ := isNum_of_lt h2
    exact .inr (.inr ⟨_, _, N, hr, hN⟩)
  · by_cases h3 : F % 9223372036854775808 = 9218868437227405312
    · refine .inr (.inl ⟨decide (9223372036854775808 ≤ F), by rw [← h3]; exact hr, ?_⟩)
      unfold Format.read
      rw [bn, ir, sw]
      dsimp only
      rw [if_neg (by omega), if_neg h2, if_pos h3]
      congr 1
      by_cases h : 9223372036854775808 ≤ F
      · have : F / 9223372036854775808 % 2 = 1 := by omega
        rw [this]; simp [h]
      · have : F / 9223372036854775808 % 2 = 0 := by omega
        rw [this]; simp [h]
    · left
      refine ⟨F / 9223372036854775808 % 2 == 1, F % 9223372036854775808 - 9218868437227405312, ?_⟩
      unfold Format.read
      rw [bn, ir, sw]
      dsimp only
      rw [if_neg (by omega), if_neg h2, if_neg h3]

theorem re_one {N : Nat} (h : 0 < N) : re N 1 < N := by
  unfold re
  rw [Nat.pow_one]
  split <;> omega

theorem rung_half {w N : Nat} (h : IsNum w N) (h0 : 0 < N) : rung (N * 2 ^ (B - 1)) < w := by
  have hb := hB
  have hw := h.back
  have hlt := h.1
  have n0 : N ≠ 0 := by omega
  have a0 : N * 2 ^ B ≠ 0 := Nat.mul_ne_zero n0 (by have := Nat.two_pow_pos B; omega)
  have b0 : N * 2 ^ (B - 1) ≠ 0 := Nat.mul_ne_zero n0 (by have := Nat.two_pow_pos (B - 1); omega)
  unfold rung at hw ⊢
  rw [if_neg a0, log2_mul _ _ n0] at hw
  rw [if_neg b0, log2_mul _ _ n0]
  by_cases hc : 53 ≤ N.log2
  · obtain ⟨s, hs⟩ : ∃ s, N.log2 = s + 53 := ⟨N.log2 - 53, by omega⟩
    rw [hs, show s + 53 + B - 1126 = s + 1 from by omega, show B + (s + 1) = (s + 1) + B from by omega, re_shift] at hw
    rw [hs, show s + 53 + (B - 1) - 1126 = s from by omega, show B + s = (s + 1) + (B - 1) from by omega, re_shift]
    generalize re N (s + 1) = x at hw ⊢
    omega
  · rw [show N.log2 + B - 1126 = 0 from by omega, Nat.add_zero, re_mul] at hw
    have hsh := re_shift N 1 (B - 1)
    rw [show N.log2 + (B - 1) - 1126 = 0 from by omega, Nat.add_zero, show B = 1 + (B - 1) from by omega]
    rw [show 1 + (B - 1) - 1 = B - 1 from by omega, hsh]
    have := re_one h0
    omega

theorem num_le {w v N M : Nat} (h : IsNum w N) (k : IsNum v M) (hl : w ≤ v) : N ≤ M := by
  rcases Nat.lt_or_ge M N with c | c
  · have h2 : rung (M * 2 ^ B) ≤ rung (N * 2 ^ B) := rung_mono (Nat.mul_le_mul_right _ (Nat.le_of_lt c))
    rw [k.back, h.back] at h2
    have h3 : w = v := Nat.le_antisymm hl h2
    subst h3
    have := k.fun h
    omega
  · exact c

theorem mag_lt {w N : Nat} (h : IsNum w N) : ∃ (m : Nat) (e : Int), double.read w = .number false m e ∧ -1074 ≤ e ∧ m * 2 ^ (e + 1074).toNat = N ∧ m < 2 ^ 53 := by
  obtain ⟨hw, m, e, hr, he, hv⟩ := h
  refine ⟨m, e, hr, he, hv, ?_⟩
  rw [read_low (by omega)] at hr
  by_cases h1 : w < 4503599627370496
  · rw [if_pos h1] at hr; cases hr; omega
  · rw [if_neg h1, if_pos hw] at hr; cases hr; omega

/-- half of a number is a number, less than it -/
theorem half {s : Bool} {w N : Nat} (h : IsNum w N) : ∃ q N', double.div (sw2 s w) 4611686018427387904 = some q ∧ SNum q s N' ∧ (0 < N → N' < N) ∧ (N = 0 → N' = 0) := by
  have hb := hB
  obtain ⟨m, e, hr, he, hv, hm⟩ := mag_lt h
  have hrs : double.read (sw2 s w) = .number s m e := by
    cases s
    · exact hr
    · exact read_high h.1 hr
  have hl : m.log2 ≤ 52 := by
    by_cases h0 : m = 0
    · subst h0; decide
    · have := (Nat.log2_lt h0).2 hm; omega
  have r2 : double.read 4611686018427387904 = .number false 4503599627370496 (-51) := by decide
  have hq : double.div (sw2 s w) 4611686018427387904 = some (sw2 s (rung (N * 2 ^ (B - 1)))) := by
    unfold Format.div Datum.quotient
    rw [hrs, r2]
    simp only [Nat.reduceEqDiff, if_false, Option.map_some, Bool.xor_false, Format.write]
    have hl2 : Nat.log2 4503599627370496 = 52 := by decide
    have hfb : double.fractionBits + 2 = 54 := rfl
    rw [hl2, hfb]
    obtain ⟨t, ht⟩ : ∃ t, 54 + 52 - m.log2 = t + 52 := ⟨54 - m.log2, by omega⟩
    have ht2 : t ≤ 54 := by omega
    rw [ht, Nat.shiftLeft_eq, Nat.pow_add, ← Nat.mul_assoc, show (2 ^ 52 : Nat) = 4503599627370496 from rfl, Nat.mul_div_cancel _ (by decide), Nat.mul_mod_left]
    simp only [bne_self_eq_false, Bool.toNat_false, Nat.add_zero]
    rw [nearest_eq _ _ _ (by omega), word_eq]
    congr 2
    subst hv
    rw [show (e - -51 - ((t + 52 : Nat) : Int) - 1 + 2148).toNat = (e + 1074).toNat + (B - 1) - (t + 1) from by omega]
    congr 1
    rw [Nat.mul_comm 2, Nat.mul_assoc m, ← Nat.pow_succ, Nat.mul_assoc, ← Nat.pow_add, Nat.mul_assoc, ← Nat.pow_add]
    congr 2
    omega
  by_cases h0 : N = 0
  · subst h0
    rw [Nat.zero_mul, show rung 0 = 0 from rfl] at hq
    exact ⟨_, 0, hq, zero_num.signed s, fun h => by omega, fun _ => rfl⟩
  · have hlt := rung_half h (by omega)
    obtain ⟨N', hN', _⟩ := isNum_of_lt (Nat.lt_trans hlt h.1)
    refine ⟨_, N', hq, hN'.signed s, fun _ => ?_, fun e => (h0 e).elim⟩
    rcases Nat.lt_or_ge N' N with c | c
    · exact c
    · exfalso
      have h2 : rung (N * 2 ^ B) ≤ rung (N' * 2 ^ B) := rung_mono (Nat.mul_le_mul_right _ c)
      rw [h.back, hN'.back] at h2
      omega

theorem xor_top {w : Nat} (h : w < 9223372036854775808) : w ^^^ 2 ^ 63 = 9223372036854775808 + w := by
  refine Nat.eq_of_testBit_eq fun i => ?_
  rw [Nat.testBit_xor, Nat.testBit_two_pow]
  rw [show 9223372036854775808 + w = 2 ^ 63 + w from rfl]
  rcases Nat.lt_trichotomy i 63 with c | c | c
  · rw [Nat.testBit_two_pow_add_gt c]
    have : ¬ 63 = i := by omega
    simp [this]
  · subst c
    rw [Nat.testBit_two_pow_add_eq]
    simp [Nat.testBit_lt_two_pow (show w < 2 ^ 63 from h)]
  · have h1 : w < 2 ^ i := Nat.lt_of_lt_of_le (show w < 2 ^ 63 from h) (Nat.pow_le_pow_right (by omega) (by omega : 63 ≤ i))
    have h2 : 2 ^ 63 + w < 2 ^ i := Nat.lt_of_lt_of_le (show 2 ^ 63 + w < 2 ^ 64 from by rw [show (2 : Nat) ^ 64 = 18446744073709551616 from rfl, show (2 : Nat) ^ 63 = 9223372036854775808 from rfl]; omega) (Nat.pow_le_pow_right (by omega) (by omega : 64 ≤ i))
    have : ¬ 63 = i := by omega
    simp [Nat.testBit_lt_two_pow h1, Nat.testBit_lt_two_pow h2, this]

theorem neg_sw2 {w : Nat} (h : w < 9223372036854775808) (s : Bool) : Go.Op.negFloat .f64 (sw2 s w) = sw2 (!s) w := by
  show sw2 s w ^^^ 2 ^ 63 = _
  cases s
  · exact xor_top h
  · show (9223372036854775808 + w) ^^^ 2 ^ 63 = w
    rw [← xor_top h, Nat.xor_assoc, Nat.xor_self, Nat.xor_zero]

/-- how a number stands to 0 -/
def sign (s : Bool) (N : Nat) : Ordering := if N = 0 then .eq else if s then .lt else .gt

theorem max_num : ∃ M, IsNum 9218868437227405311 M ∧ ∀ w N, IsNum w N → N ≤ M := by
  obtain ⟨M, hM, _⟩ := isNum_of_lt (w := 9218868437227405311) (by decide)
  exact ⟨M, hM, fun w N h => num_le h hM (by have := h.1; omega)⟩

theorem num_facts {s : Bool} {w N : Nat} (h : IsNum w N) :
    double.order (sw2 s w) (sw2 s w) = some .eq ∧ double.order (sw2 s w) 9218868437227405311 ≠ some .gt ∧ double.order (Go.Op.negFloat .f64 (sw2 s w)) 9218868437227405311 ≠ some .gt ∧
    double.order (sw2 s w) 0 = some (sign s N) ∧ ∃ q, double.div (sw2 s w) 4611686018427387904 = some q ∧ double.order (sw2 s w) q = some (sign s N) := by
  obtain ⟨M, hM, hle⟩ := max_num
  have hN := hle w N h
  have hmax : ∀ t, double.order (sw2 t w) 9218868437227405311 ≠ some .gt := by
    intro t
    rw [snum_order (h.signed t) hM.s]
    have : sg t N ≤ sg false M := by unfold sg; cases t <;> simp <;> omega
    intro e
    have := Int.compare_eq_gt.1 (Option.some.inj e)
    omega
  refine ⟨?_, hmax s, ?_, ?_, ?_⟩
  · rw [snum_order (h.signed s) (h.signed s), Int.compare_eq_eq.2 rfl]
  · have := h.1
    rw [neg_sw2 (by omega)]; exact hmax _
  · rw [snum_order (h.signed s) zero_num.s]
    unfold sign sg
    by_cases h0 : N = 0
    · subst h0; cases s <;> rfl
    · rw [if_neg h0]
      cases s
      · simp only [Bool.false_eq_true, if_false]
        rw [Int.compare_eq_gt.2 (by omega)]
      · simp only [if_true, Bool.false_eq_true, if_false]
        rw [Int.compare_eq_lt.2 (by omega)]
  · obtain ⟨q, N', hq, hn, h1, h2⟩ := half (s := s) h
    refine ⟨q, hq, ?_⟩
    rw [snum_order (h.signed s) hn]
    unfold sign sg
    by_cases h0 : N = 0
    · rw [h2 h0]; subst h0; cases s <;> rfl
    · have := h1 (by omega)
      rw [if_neg h0]
      cases s
      · simp only [Bool.false_eq_true, if_false]
        rw [Int.compare_eq_gt.2 (by omega)]
      · simp only [if_true]
        rw [Int.compare_eq_lt.2 (by omega)]

/-- the sum of delays -/
noncomputable def total (b c F : Nat) : Nat → Int
  | 0 => 0
  | n + 1 => total b c F n + next b c F n

theorem total_bounds {b c F : Nat} (hc : c < 2 ^ 53) (n : Nat) : 0 ≤ total b c F n ∧ total b c F n ≤ n * c := by
  induction n with
  | zero => unfold total; simp
  | succ n ih =>
    have := next_bounds (b := b) (F := F) hc n
    unfold total
    have e : ((n + 1 : Nat) : Int) * c = n * c + c := by rw [Int.natCast_add, Int.add_mul]; simp
    rw [e]
    omega
end Go.Proofs.Ytlhpmnnbjkbahaa.Fl
