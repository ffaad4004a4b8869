/- Floats as they are ordered: by sign and size. -/
import Derived.Test.YtljhjhfnoalhkaaDoorFF
namespace Go.Proofs.YtljhjhfnoalhkaaDoor.Fl
open Go.RowKit Go.Maps
set_option linter.unusedVariables false
set_option linter.unusedSimpArgs false
/-- A size's worth, in units of the least one. -/
def worth (r : Nat) : Nat := if r < 4503599627370496 then r else (4503599627370496 + r % 4503599627370496) * 2 ^ (r / 4503599627370496 - 1)
theorem worth_lt {r s : Nat} (h : r < s) : worth r < worth s := by
  unfold worth
  by_cases h1 : s < 4503599627370496
  · rw [if_pos h1, if_pos (by omega)]; exact h
  · rw [if_neg h1]
    have hp : 0 < 2 ^ (s / 4503599627370496 - 1) := Nat.pow_pos (by decide)
    by_cases h2 : r < 4503599627370496
    · rw [if_pos h2]
      have : (4503599627370496 + s % 4503599627370496) * 1 ≤ (4503599627370496 + s % 4503599627370496) * 2 ^ (s / 4503599627370496 - 1) := Nat.mul_le_mul_left _ hp
      omega
    · rw [if_neg h2]
      by_cases he : r / 4503599627370496 = s / 4503599627370496
      · rw [he]
        exact Nat.mul_lt_mul_of_pos_right (by omega) hp
      · have h3 : r / 4503599627370496 < s / 4503599627370496 := by omega
        obtain ⟨k, hk⟩ : ∃ k, s / 4503599627370496 - 1 = (r / 4503599627370496 - 1) + 1 + k := ⟨s / 4503599627370496 - 1 - (r / 4503599627370496 - 1) - 1, by omega⟩
        rw [hk, Nat.pow_add, Nat.pow_add]
        have hq : 0 < 2 ^ (r / 4503599627370496 - 1) := Nat.pow_pos (by decide)
        have hk2 : 0 < 2 ^ k := Nat.pow_pos (by decide)
        generalize 2 ^ (r / 4503599627370496 - 1) = p at *
        generalize 2 ^ k = t at *
        have a1 : (4503599627370496 + r % 4503599627370496) * p < 9007199254740992 * p := Nat.mul_lt_mul_of_pos_right (by omega) hq
        have a2 : 9007199254740992 * p ≤ 4503599627370496 * (p * 2 ^ 1 * t) := by
          have : p * 2 ^ 1 * 1 ≤ p * 2 ^ 1 * t := Nat.mul_le_mul_left _ hk2
          omega
        have a3 : 4503599627370496 * (p * 2 ^ 1 * t) ≤ (4503599627370496 + s % 4503599627370496) * (p * 2 ^ 1 * t) := Nat.mul_le_mul_right _ (by omega)
        omega
theorem worth_iff (r s : Nat) : worth r < worth s ↔ r < s := by
  constructor
  · intro h
    rcases Nat.lt_trichotomy r s with h1 | h1 | h1
    · exact h1
    · subst h1; omega
    · have := worth_lt h1; omega
  · exact worth_lt
/-- The number of a finite size. -/
def datum (neg : Bool) (r : Nat) : Ieee.Datum := if r < 4503599627370496 then .number neg r (-1074) else .number neg (4503599627370496 + r % 4503599627370496) (-1074 + ((r / 4503599627370496 - 1 : Nat) : Int))
theorem read_eq (x : Nat) : Ieee.double.read x = (if x % 9223372036854775808 < 9218868437227405312 then datum (x / 9223372036854775808 % 2 == 1) (x % 9223372036854775808) else if x % 9223372036854775808 = 9218868437227405312 then .infinity (x / 9223372036854775808 % 2 == 1) else .nan (x / 9223372036854775808 % 2 == 1) (x % 9223372036854775808 - 9218868437227405312)) := by
  have e1 : Ieee.double.signWeight = 9223372036854775808 := by decide
  have e2 : Ieee.double.binade = 4503599627370496 := by decide
  have e3 : Ieee.double.infRung = 9218868437227405312 := by decide
  have e4 : Ieee.double.leastPlace = -1074 := by decide
  unfold Ieee.Format.read datum
  rw [e1, e2, e3, e4]
  simp only
  generalize x % 9223372036854775808 = r
  generalize (x / 9223372036854775808 % 2 == 1) = s
  by_cases h1 : r < 4503599627370496
  · rw [if_pos h1, if_pos (by omega), if_pos h1]
  · rw [if_neg h1, if_neg h1]
/-- A sign and a size as one number. -/
def sg (s : Bool) (r : Nat) : Int := if s = true then -(r : Int) else (r : Int)
theorem cmp_eq {x y p q : Int} (h1 : x < y ↔ p < q) (h2 : y < x ↔ q < p) : compare x y = compare p q := by
  simp only [compare, compareOfLessAndEq]
  by_cases a : x < y
  · rw [if_pos a, if_pos (h1.1 a)]
  · rw [if_neg a, if_neg (fun h => a (h1.2 h))]
    by_cases b : y < x
    · rw [if_neg (by omega), if_neg (by have := h2.1 b; omega)]
    · rw [if_pos (by omega), if_pos (by have h3 : ¬ p < q := fun h => a (h1.2 h); have h4 : ¬ q < p := fun h => b (h2.2 h); omega)]
theorem cmp_lt {x y : Int} (h : x < y) : compare x y = .lt := by
  simp only [compare, compareOfLessAndEq]
  rw [if_pos h]
theorem cmp_gt {x y : Int} (h : y < x) : compare x y = .gt := by
  simp only [compare, compareOfLessAndEq]
  rw [if_neg (by omega), if_neg (by omega)]
theorem datum_parts (s : Bool) (r : Nat) : ∃ m a : Nat, datum s r = .number s m (-1074 + (a : Int)) ∧ m * 2 ^ a = worth r := by
  unfold datum worth
  by_cases h : r < 4503599627370496
  · rw [if_pos h, if_pos h]
    exact ⟨r, 0, by simp, by simp⟩
  · rw [if_neg h, if_neg h]
    exact ⟨_, _, rfl, rfl⟩
theorem shift_worth (m a c : Nat) (h : c ≤ a) : (m <<< (a - c)) * 2 ^ c = m * 2 ^ a := by
  rw [Nat.shiftLeft_eq, Nat.mul_assoc, ← Nat.pow_add, Nat.sub_add_cancel h]
theorem signed_lt (s t : Bool) (r q M N P : Nat) (hP : 0 < P) (h1 : M * P = worth r) (h2 : N * P = worth q) : (if s = true then -(M : Int) else (M : Int)) < (if t = true then -(N : Int) else (N : Int)) ↔ sg s r < sg t q := by
  have hw := worth_iff r q
  have hw2 := worth_iff q r
  have hw3 := worth_iff 0 r
  have hw4 := worth_iff 0 q
  rw [show worth 0 = 0 by decide] at hw3 hw4
  rw [← h1, ← h2, Nat.mul_lt_mul_right hP] at hw hw2
  rw [← h1] at hw3
  rw [← h2] at hw4
  have z1 : 0 < M * P ↔ 0 < M := ⟨fun h => Nat.pos_of_mul_pos_right h, fun h => Nat.mul_pos h hP⟩
  have z2 : 0 < N * P ↔ 0 < N := ⟨fun h => Nat.pos_of_mul_pos_right h, fun h => Nat.mul_pos h hP⟩
  rw [z1] at hw3
  rw [z2] at hw4
  clear h1 h2 z1 z2
  unfold sg
  cases s <;> cases t <;> simp <;> omega
theorem order_datum (s t : Bool) (r q : Nat) : (datum s r).order (datum t q) = some (compare (sg s r) (sg t q)) := by
  obtain ⟨m, a, e1, w1⟩ := datum_parts s r
  obtain ⟨n, b, e2, w2⟩ := datum_parts t q
  rw [e1, e2]
  show some (compare (Ieee.signed s m ((-1074 + (a : Int)) - min (-1074 + (a : Int)) (-1074 + (b : Int))).toNat) (Ieee.signed t n ((-1074 + (b : Int)) - min (-1074 + (a : Int)) (-1074 + (b : Int))).toNat)) = _
  have ea : ((-1074 + (a : Int)) - min (-1074 + (a : Int)) (-1074 + (b : Int))).toNat = a - min a b := by omega
  have eb : ((-1074 + (b : Int)) - min (-1074 + (a : Int)) (-1074 + (b : Int))).toNat = b - min a b := by omega
  rw [ea, eb]
  congr 1
  have hP : 0 < 2 ^ min a b := Nat.pow_pos (by decide)
  have f1 := shift_worth m a (min a b) (by omega)
  have f2 := shift_worth n b (min a b) (by omega)
  rw [w1] at f1
  rw [w2] at f2
  unfold Ieee.signed
  exact cmp_eq (signed_lt s t r q _ _ _ hP f1 f2) (signed_lt t s q r _ _ _ hP f2 f1)
/-- The size of bits; their sign. -/
def rung (u : Int) : Nat := (u % 9223372036854775808).toNat
def neg (u : Int) : Bool := decide (9223372036854775808 ≤ u)
theorem order_ok (u v : Int) (h0 : 0 ≤ u) (h1 : u < 18446744073709551616) (h2 : 0 ≤ v) (h3 : v < 18446744073709551616) (hu : u % 9223372036854775808 ≤ 9218868437227405312) (hv : v % 9223372036854775808 ≤ 9218868437227405312) :
    Ieee.double.order u.toNat v.toNat = some (compare (sg (neg u) (rung u)) (sg (neg v) (rung v))) := by
  have key : ∀ u : Int, 0 ≤ u → u < 18446744073709551616 → u % 9223372036854775808 ≤ 9218868437227405312 → (rung u < 9218868437227405312 ∧ Ieee.double.read u.toNat = datum (neg u) (rung u)) ∨ (rung u = 9218868437227405312 ∧ Ieee.double.read u.toNat = .infinity (neg u)) := by
    intro u h0 h1 hu
    have er : u.toNat % 9223372036854775808 = rung u := by unfold rung; omega
    have en : (u.toNat / 9223372036854775808 % 2 == 1) = neg u := by
      unfold neg
      rw [Bool.eq_iff_iff, beq_iff_eq, decide_eq_true_eq]
      omega
    rw [read_eq, er, en]
    by_cases h : rung u < 9218868437227405312
    · exact Or.inl ⟨h, by rw [if_pos h]⟩
    · have h' : rung u = 9218868437227405312 := by unfold rung at *; omega
      exact Or.inr ⟨h', by rw [if_neg h, if_pos h']⟩
  unfold Ieee.Format.order
  rcases key u h0 h1 hu with ⟨a1, a2⟩ | ⟨a1, a2⟩ <;> rcases key v h2 h3 hv with ⟨b1, b2⟩ | ⟨b1, b2⟩
  · rw [a2, b2, order_datum]
  · rw [a2, b2]
    obtain ⟨m, a, e, _⟩ := datum_parts (neg u) (rung u)
    rw [e, b1]
    show some _ = some _
    congr 1
    generalize rung u = r at *
    cases neg v <;> cases neg u <;> (first | exact (cmp_lt (by unfold sg; simp only [if_true, if_false, Bool.false_eq_true]; omega)).symm | exact (cmp_gt (by unfold sg; simp only [if_true, if_false, Bool.false_eq_true]; omega)).symm)
  · rw [a2, b2]
    obtain ⟨m, a, e, _⟩ := datum_parts (neg v) (rung v)
    rw [e, a1]
    show some _ = some _
    congr 1
    generalize rung v = r at *
    cases neg v <;> cases neg u <;> (first | exact (cmp_lt (by unfold sg; simp only [if_true, if_false, Bool.false_eq_true]; omega)).symm | exact (cmp_gt (by unfold sg; simp only [if_true, if_false, Bool.false_eq_true]; omega)).symm)
  · rw [a2, b2, a1, b1]
    show some _ = some _
    congr 1
    cases neg v <;> cases neg u <;> decide
theorem order_nan (u v : Int) (h0 : 0 ≤ u) (h1 : u < 18446744073709551616) (h2 : 0 ≤ v) (h3 : v < 18446744073709551616) (hu : ¬ u % 9223372036854775808 ≤ 9218868437227405312 ∨ ¬ v % 9223372036854775808 ≤ 9218868437227405312) :
    Ieee.double.order u.toNat v.toNat = none := by
  have key : ∀ u : Int, 0 ≤ u → u < 18446744073709551616 → ¬ u % 9223372036854775808 ≤ 9218868437227405312 → ∃ a b, Ieee.double.read u.toNat = .nan a b := by
    intro u h0 h1 hu
    rw [read_eq, if_neg (by omega), if_neg (by omega)]
    exact ⟨_, _, rfl⟩
  unfold Ieee.Format.order
  rcases hu with hu | hu
  · obtain ⟨a, b, e⟩ := key u h0 h1 hu
    rw [e]
    rfl
  · obtain ⟨a, b, e⟩ := key v h2 h3 hu
    rw [e]
    generalize Ieee.double.read u.toNat = x
    cases x <;> rfl
end Go.Proofs.YtljhjhfnoalhkaaDoor.Fl
