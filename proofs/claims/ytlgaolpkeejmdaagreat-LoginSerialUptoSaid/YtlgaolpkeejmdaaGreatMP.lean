import Derived.Test.YtlgaolpkeejmdaaGreatMB
import Derived.Defers
set_option linter.unusedSimpArgs false
set_option linter.unusedVariables false
namespace Go.Pv
section
variable {P : Program}
/-- As PCalls, for a call that was deferred. -/
def PCallsD (P : Program) (f : FuncId) (args : List PV) (H : PH) (K : PV → PH → Prop) : Prop :=
  Enters P f ∧ ∀ w hw vs u, WRep w hw H → RepL (memOf w hw) args vs → CallsD P f vs.toArray u w fun e u' w' =>
    u' = u ∧ ∃ v hw' r H', e = .returned v ∧ ExtF H w hw w' hw' H' ∧ WRep w' hw' H' ∧ Rep (memOf w' hw') r v ∧ K r H'
theorem PCallsD.mono {f : FuncId} {args : List PV} {H : PH} {K K' : PV → PH → Prop} (h : PCallsD P f args H K) (hk : ∀ r H', K r H' → K' r H') : PCallsD P f args H K' :=
  ⟨h.1, fun w hw vs u h1 h2 => (h.2 w hw vs u h1 h2).mono fun _ _ _ ⟨e0, v, hw', r, H', e1, e2, e3, e4, e5⟩ => ⟨e0, v, hw', r, H', e1, e2, e3, e4, hk _ _ e5⟩⟩
end
end Go.Pv

set_option linter.unusedSimpArgs false
set_option linter.unusedVariables false
namespace Go.Pv
section
variable {P : Program}
end
end Go.Pv

set_option linter.unusedVariables false
set_option linter.unusedSimpArgs false
set_option exponentiation.threshold 2000
namespace Go.Pv
open Ieee
/-- A whole number as a double's bits. -/
def fl (n : Int) : Nat := FloatKind.nearest .f64 n
theorem log2_mul_pow {m j : Nat} (h : m ≠ 0) : (m * 2 ^ j).log2 = m.log2 + j := by
  rw [Nat.log2_eq_iff (by have := Nat.two_pow_pos j; exact Nat.mul_ne_zero h (by omega))]
  have h1 := Nat.log2_self_le h
  have h2 := Nat.lt_log2_self (n := m)
  refine ⟨?_, ?_⟩
  · rw [Nat.pow_add]; exact Nat.mul_le_mul_right _ h1
  · rw [show m.log2 + j + 1 = (m.log2 + 1) + j by omega, Nat.pow_add]
    exact (Nat.mul_lt_mul_right (Nat.two_pow_pos j)).2 h2
theorem cut_zero (neg : Bool) (n : Nat) : Toward.even.cut neg n 0 = n := by
  simp [Toward.cut, Nat.mod_one]
theorem cut_exact (neg : Bool) {a d : Nat} (h : a ≠ 0) : Toward.even.cut neg (a * 2 ^ d) d = a := by
  have hl := log2_mul_pow (m := a) (j := d) h
  have hm : min d ((a * 2 ^ d).log2 + 2) = d := by rw [hl]; omega
  have hp := Nat.two_pow_pos d
  have h0 : 2 ^ d ≠ 0 := by omega
  simp only [Toward.cut, hm, Nat.one_shiftLeft, Nat.mul_div_cancel _ hp, Nat.mul_mod_left]
  simp [h0]
theorem dbl_least : double.leastPlace = -1074 := by decide
theorem dbl_binade : double.binade = 2 ^ 52 := by decide
theorem dbl_inf : double.infRung = 2047 * 2 ^ 52 := by decide
theorem dbl_sign : double.signWeight = 2 ^ 63 := by decide
theorem dbl_frac : double.fractionBits = 52 := rfl
/-- The rung of a whole number. -/
def rungOf (m : Nat) : Nat := (m.log2 + 1022) * 2 ^ 52 + m * 2 ^ (52 - m.log2)
theorem log2_lt53 {m : Nat} (h : m ≠ 0) (h2 : m < 2 ^ 53) : m.log2 ≤ 52 := by
  have := (Nat.log2_lt h).2 h2
  omega
theorem sig_bounds {m : Nat} (h : m ≠ 0) (h2 : m < 2 ^ 53) : 2 ^ 52 ≤ m * 2 ^ (52 - m.log2) ∧ m * 2 ^ (52 - m.log2) < 2 ^ 53 := by
  have hk := log2_lt53 h h2
  have h1 := Nat.log2_self_le h
  have h3 := Nat.lt_log2_self (n := m)
  have e1 : 2 ^ 52 = 2 ^ m.log2 * 2 ^ (52 - m.log2) := by rw [← Nat.pow_add]; congr 1; omega
  have e2 : 2 ^ 53 = 2 ^ (m.log2 + 1) * 2 ^ (52 - m.log2) := by rw [← Nat.pow_add]; congr 1; omega
  rw [e1, e2]
  exact ⟨Nat.mul_le_mul_right _ h1, (Nat.mul_lt_mul_right (Nat.two_pow_pos _)).2 h3⟩
theorem rung_lt {m : Nat} (h : m ≠ 0) (h2 : m < 2 ^ 53) : rungOf m < 2047 * 2 ^ 52 := by
  have hk := log2_lt53 h h2
  have := (sig_bounds h h2).2
  unfold rungOf
  omega
theorem nearest_int (neg : Bool) {m : Nat} (j : Nat) (h : m ≠ 0) (h2 : m < 2 ^ 53) : double.nearest neg (m * 2 ^ j) (-(j : Int)) = double.word neg (rungOf m) := by
  have hk := log2_lt53 h h2
  have hp := Nat.two_pow_pos j
  have hne : m * 2 ^ j ≠ 0 := Nat.mul_ne_zero h (by omega)
  unfold Format.nearest
  rw [if_neg hne]
  simp only [log2_mul_pow h, dbl_least, dbl_binade, dbl_inf, dbl_frac]
  have hlast : max (-(j : Int) + ((m.log2 + j : Nat) : Int) - ((52 : Nat) : Int)) (-1074) = (m.log2 : Int) - 52 := by omega
  rw [hlast]
  have hup : ((m.log2 : Int) - 52 - -1074).toNat = m.log2 + 1022 := by omega
  rw [hup]
  have hkept : Toward.even.cut neg ((m * 2 ^ j) <<< (-(j : Int) - ((m.log2 : Int) - 52)).toNat) ((m.log2 : Int) - 52 - -(j : Int)).toNat = m * 2 ^ (52 - m.log2) := by
    by_cases hj : j ≤ 52 - m.log2
    · have e1 : (-(j : Int) - ((m.log2 : Int) - 52)).toNat = 52 - m.log2 - j := by omega
      have e2 : ((m.log2 : Int) - 52 - -(j : Int)).toNat = 0 := by omega
      rw [e1, e2, cut_zero, Nat.shiftLeft_eq, Nat.mul_assoc, ← Nat.pow_add]
      congr 2; omega
    · have e1 : (-(j : Int) - ((m.log2 : Int) - 52)).toNat = 0 := by omega
      have e2 : ((m.log2 : Int) - 52 - -(j : Int)).toNat = j - (52 - m.log2) := by omega
      rw [e1, e2, Nat.shiftLeft_zero]
      have e3 : m * 2 ^ j = (m * 2 ^ (52 - m.log2)) * 2 ^ (j - (52 - m.log2)) := by
        rw [Nat.mul_assoc, ← Nat.pow_add]; congr 2; omega
      rw [e3]
      exact cut_exact neg (Nat.mul_ne_zero h (by have := Nat.two_pow_pos (52 - m.log2); omega))
  rw [hkept]
  have := rung_lt h h2
  unfold rungOf at this ⊢
  rw [Nat.min_eq_left (by omega)]
theorem read_word (neg : Bool) {m : Nat} (h : m ≠ 0) (h2 : m < 2 ^ 53) : double.read (double.word neg (rungOf m)) = .number neg (m * 2 ^ (52 - m.log2)) (-((52 - m.log2 : Nat) : Int)) := by
  have hk := log2_lt53 h h2
  obtain ⟨s1, s2⟩ := sig_bounds h h2
  have hr := rung_lt h h2
  have hr1 : rungOf m < 2 ^ 63 := by omega
  have w1 : double.word neg (rungOf m) / 2 ^ 63 % 2 = if neg then 1 else 0 := by
    unfold Format.word; rw [dbl_sign]
    cases neg
    · simp only [Bool.false_eq_true, if_false]; omega
    · simp only [if_true]; omega
  have w2 : double.word neg (rungOf m) % 2 ^ 63 = rungOf m := by
    unfold Format.word; rw [dbl_sign]
    cases neg
    · simp only [Bool.false_eq_true, if_false]; omega
    · simp only [if_true]; omega
  unfold Format.read
  simp only [dbl_sign, w1, w2, dbl_binade, dbl_inf, dbl_least]
  generalize hM : m * 2 ^ (52 - m.log2) = M at *
  have hrung : rungOf m = (m.log2 + 1022) * 2 ^ 52 + M := by unfold rungOf; rw [hM]
  rw [if_neg (by omega), if_pos (by omega)]
  have a1 : rungOf m % 2 ^ 52 = M - 2 ^ 52 := by omega
  have a2 : rungOf m / 2 ^ 52 = m.log2 + 1023 := by omega
  rw [a1, a2]
  have a3 : 2 ^ 52 + (M - 2 ^ 52) = M := by omega
  rw [a3]
  have a4 : (-1074 : Int) + ((m.log2 + 1023 - 1 : Nat) : Int) = -((52 - m.log2 : Nat) : Int) := by omega
  rw [a4]
  cases neg <;> rfl
theorem read_zero (neg : Bool) : double.read (double.word neg 0) = .number neg 0 (-((1074 : Nat) : Int)) := by cases neg <;> decide
/-- What a datum is worth, as a whole number. -/
def IsV (d : Datum) (s : Bool) (n : Int) : Prop := ∃ (M p : Nat), d = .number s M (-(p : Int)) ∧ signed s M 0 = n * 2 ^ p ∧ (n = 0 → M = 0)
theorem signed0 (s : Bool) (M : Nat) : signed s M 0 = if s then -(M : Int) else M := by simp [signed]
theorem signed_up (s : Bool) (M u : Nat) : signed s M u = signed s M 0 * 2 ^ u := by
  simp only [signed, Nat.shiftLeft_eq, Nat.pow_zero, Nat.mul_one]
  cases s <;> simp [Int.natCast_mul, Int.natCast_pow, Int.neg_mul]
theorem fl_v {n : Int} (h : n.natAbs < 2 ^ 53) : IsV (double.read (fl n)) (decide (n < 0)) n := by
  by_cases hz : n = 0
  · subst hz
    have : fl 0 = double.word false 0 := by decide
    rw [this, read_zero]
    exact ⟨0, 1074, rfl, by simp [signed], fun _ => rfl⟩
  · have hn : n.natAbs ≠ 0 := by omega
    have e : fl n = double.word (decide (n < 0)) (rungOf n.natAbs) := by
      have := nearest_int (decide (n < 0)) 0 hn h
      simpa [fl, FloatKind.nearest, FloatKind.encode, FloatKind.format, Format.write] using this
    rw [e, read_word _ hn h]
    refine ⟨_, _, rfl, ?_, fun h => absurd h hz⟩
    rw [signed0]
    by_cases hneg : n < 0
    · simp only [hneg, decide_true, if_true, Int.natCast_mul, Int.natCast_pow]
      have : (n.natAbs : Int) = -n := by omega
      rw [this, Int.neg_mul, Int.neg_neg]; rfl
    · simp only [hneg, decide_false, Bool.false_eq_true, if_false, Int.natCast_mul, Int.natCast_pow]
      have : (n.natAbs : Int) = n := by omega
      rw [this]; rfl
theorem order_v {d e : Datum} {s t : Bool} {n m : Int} (h : IsV d s n) (k : IsV e t m) : d.order e = some (compare n m) := by
  obtain ⟨M, p, rfl, h1, _⟩ := h
  obtain ⟨N, q, rfl, k1, _⟩ := k
  simp only [Datum.order]
  rw [signed_up, signed_up t, h1, k1]
  have e1 : (-(p : Int) - min (-(p : Int)) (-(q : Int))).toNat = max p q - p := by omega
  have e2 : (-(q : Int) - min (-(p : Int)) (-(q : Int))).toNat = max p q - q := by omega
  have f1 : n * 2 ^ p * 2 ^ (max p q - p) = n * 2 ^ (max p q) := by rw [Int.mul_assoc, ← Int.pow_add]; congr 2; omega
  have f2 : m * 2 ^ q * 2 ^ (max p q - q) = m * 2 ^ (max p q) := by rw [Int.mul_assoc, ← Int.pow_add]; congr 2; omega
  rw [e1, e2, f1, f2]
  congr 1
  have hp : (0 : Int) < 2 ^ (max p q) := Int.pow_pos (by omega)
  simp only [compare, compareOfLessAndEq]
  have l1 : n * 2 ^ (max p q) < m * 2 ^ (max p q) ↔ n < m := Int.mul_lt_mul_right hp
  have l2 : n * 2 ^ (max p q) = m * 2 ^ (max p q) ↔ n = m := Int.mul_eq_mul_right_iff (by omega)
  simp only [l1, l2]
theorem sum_v {d e : Datum} {s t : Bool} {n m : Int} (h : IsV d s n) (k : IsV e t m) (hs : n + m = 0 → (s && t) = false) (hb : (n + m).natAbs < 2 ^ 53) : (d.sum e).map double.write = some (fl (n + m)) := by
  obtain ⟨M, p, rfl, h1, _⟩ := h
  obtain ⟨N, q, rfl, k1, _⟩ := k
  simp only [Datum.sum]
  rw [signed_up, signed_up t, h1, k1]
  have e0 : min (-(p : Int)) (-(q : Int)) = -((max p q : Nat) : Int) := by omega
  rw [e0]
  have e1 : (-(p : Int) - -((max p q : Nat) : Int)).toNat = max p q - p := by omega
  have e2 : (-(q : Int) - -((max p q : Nat) : Int)).toNat = max p q - q := by omega
  have f1 : n * 2 ^ p * 2 ^ (max p q - p) = n * 2 ^ (max p q) := by rw [Int.mul_assoc, ← Int.pow_add]; congr 2; omega
  have f2 : m * 2 ^ q * 2 ^ (max p q - q) = m * 2 ^ (max p q) := by rw [Int.mul_assoc, ← Int.pow_add]; congr 2; omega
  rw [e1, e2, f1, f2, ← Int.add_mul]
  have hp : (0 : Int) < 2 ^ (max p q) := Int.pow_pos (by omega)
  generalize max p q = u at *
  by_cases hz : n + m = 0
  · rw [hz, Int.zero_mul, if_pos rfl, hs hz]
    simp only [Option.map_some, Int.natAbs_zero, Format.write, Format.nearest, if_true]
    congr 1
  · have hnz : (n + m) * 2 ^ u ≠ 0 := Int.mul_ne_zero hz (by omega)
    rw [if_neg hnz]
    have hneg : decide ((n + m) * 2 ^ u < 0) = decide (n + m < 0) := by
      rw [decide_eq_decide]
      constructor
      · intro hh
        apply Classical.byContradiction
        intro hc
        have := Int.mul_nonneg (show 0 ≤ n + m by omega) (Int.le_of_lt hp)
        omega
      · intro hh
        exact Int.mul_neg_of_neg_of_pos hh hp
    rw [hneg]
    have habs : ((n + m) * 2 ^ u).natAbs = (n + m).natAbs * 2 ^ u := by
      rw [Int.natAbs_mul, Int.natAbs_pow]; rfl
    rw [habs]
    have hn : (n + m).natAbs ≠ 0 := by omega
    have w1 := nearest_int (decide (n + m < 0)) u hn hb
    have w2 := nearest_int (decide (n + m < 0)) 0 hn hb
    simp only [Option.map_some, Format.write, w1]
    congr 1
    rw [← w2]
    simp [fl, FloatKind.nearest, FloatKind.encode, FloatKind.format, Format.write]
theorem fl_order {a b : Int} (ha : a.natAbs < 2 ^ 53) (hb : b.natAbs < 2 ^ 53) : double.order (fl a) (fl b) = some (compare a b) := order_v (fl_v ha) (fl_v hb)
end Go.Pv

