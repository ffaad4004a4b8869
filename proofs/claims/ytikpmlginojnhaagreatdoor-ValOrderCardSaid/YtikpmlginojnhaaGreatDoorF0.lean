/- Floating numbers as bits: plain numbers, without the program. -/
import Derived.WalkKit
import Derived.Laws.BitsLemmas
import Derived.Laws.Bits64
import Derived.Laws.BitsAllLaws
namespace Go.Proofs.YtikpmlginojnhaaGreatDoor.Fl
open Go.RowKit
set_option linter.unusedVariables false
set_option linter.unusedSimpArgs false
theorem wrap_u64 (n : Int) : IntKind.u64.wrap n = n % 18446744073709551616 := by simp [IntKind.wrap, IntKind.bits, IntKind.signed]
theorem wraps_u64 (n : Int) (h0 : 0 ≤ n) (h1 : n < 2 ^ 64) : IntKind.u64.wrap n = n := by rw [wrap_u64]; omega
theorem b_andNot (u : Int) (h0 : 0 ≤ u) (h1 : u < 18446744073709551616) : bits .andNot .u64 u 9223372036854775808 = u % 9223372036854775808 := by
  have h := bits_mask .u64 64 (by decide) wraps_u64 63 (by decide) u h0 (by simpa using h1)
  have e : bits .andNot .u64 u 9223372036854775808 = bits .and .u64 u (2 ^ 63 - 1) := by
    unfold bits
    have : ~~~ BitVec.ofInt IntKind.u64.bits 9223372036854775808 = BitVec.ofInt IntKind.u64.bits (2 ^ 63 - 1) := by decide
    simp only [this]
  rw [e]
  exact h
theorem b_or (u : Int) (h0 : 0 ≤ u) (h1 : u < 9223372036854775808) : bits .or .u64 u 9223372036854775808 = u + 9223372036854775808 := by
  have h := bits_join .u64 64 (by decide) wraps_u64 63 9223372036854775808 u (by decide) (by decide) (by decide) h0 (by simpa using h1) (by omega)
  have e : bits .or .u64 u 9223372036854775808 = bits .or .u64 9223372036854775808 u := by
    unfold bits
    simp only [BitVec.or_comm]
  rw [e, h]
  omega
theorem b_not (u : Int) (h0 : 0 ≤ u) (h1 : u < 18446744073709551616) : bits .xor .u64 18446744073709551615 u = 18446744073709551615 - u := by
  obtain ⟨n, rfl⟩ : ∃ n : Nat, u = n := ⟨u.toNat, by omega⟩
  have hn : n < 2 ^ 64 := by omega
  unfold bits
  have e : BitVec.ofInt IntKind.u64.bits 18446744073709551615 = BitVec.allOnes 64 := by
    show BitVec.ofInt 64 18446744073709551615 = BitVec.allOnes 64
    decide
  have e2 : BitVec.ofInt IntKind.u64.bits (n : Int) = BitVec.ofNat 64 n := by rw [BitVec.ofInt_natCast]; rfl
  simp only [e, e2]
  have e3 : BitVec.allOnes 64 ^^^ BitVec.ofNat 64 n = ~~~ BitVec.ofNat 64 n := by rw [BitVec.allOnes_xor]
  show IntKind.u64.wrap ((BitVec.allOnes 64 ^^^ BitVec.ofNat 64 n).toNat : Int) = _
  rw [e3, BitVec.toNat_not, BitVec.toNat_ofNat, Nat.mod_eq_of_lt hn, wrap_u64]
  omega
theorem b_and (u : Int) (h0 : 0 ≤ u) (h1 : u < 18446744073709551616) : bits .and .u64 u 9223372036854775808 = if u < 9223372036854775808 then 0 else 9223372036854775808 := by
  obtain ⟨n, rfl⟩ : ∃ n : Nat, u = n := ⟨u.toNat, by omega⟩
  have hn : n < 2 ^ 64 := by omega
  have h := bits_nat .u64 64 (by decide) wraps_u64 n 9223372036854775808 hn (by decide)
  have e : n &&& 9223372036854775808 = if n < 9223372036854775808 then 0 else 9223372036854775808 := by
    have hb : (9223372036854775808 : Nat) = 2 ^ 63 := by decide
    by_cases hlt : n < 9223372036854775808
    · rw [if_pos hlt]
      refine Nat.eq_of_testBit_eq (fun i => ?_)
      rw [Nat.testBit_and, hb, Nat.testBit_two_pow, Nat.zero_testBit]
      by_cases hi : 63 = i
      · subst hi
        rw [Nat.testBit_lt_two_pow (by rw [← hb]; exact hlt)]
        rfl
      · simp [hi]
    · rw [if_neg hlt]
      refine Nat.eq_of_testBit_eq (fun i => ?_)
      rw [Nat.testBit_and, hb, Nat.testBit_two_pow]
      by_cases hi : 63 = i
      · subst hi
        have : n.testBit 63 = true := by
          rw [Nat.testBit_eq_decide_div_mod_eq, ← hb]
          have : n / 9223372036854775808 = 1 := by omega
          rw [this]
          decide
        rw [this]
        rfl
      · simp [hi]
  have h' := h.1
  rw [show ((9223372036854775808 : Nat) : Int) = 9223372036854775808 from rfl] at h'
  rw [h', e]
  by_cases hlt : n < 9223372036854775808
  · rw [if_pos hlt, if_pos (by omega)]; rfl
  · rw [if_neg hlt, if_neg (by omega)]; rfl
/-! ### bits -/
/-- Is it no NaN, or the one that is kept? -/
def rightU (u : Int) : Bool := decide (u % 9223372036854775808 ≤ 9218868437227405312) || (u == 9221120237041090560)
/-- Bits that are in order as the floats are. -/
def rankU (u : Int) : Int := if rightU u = true then (if u < 9223372036854775808 then u + 9223372036854775808 else 18446744073709551615 - u) else 18444492273895866368
def sgn (x y : Int) : Int := if x < y then -1 else if y < x then 1 else 0
theorem rankU_bd (u : Int) (h0 : 0 ≤ u) (h1 : u < 18446744073709551616) : 0 ≤ rankU u ∧ rankU u < 18446744073709551616 := by
  unfold rankU
  split
  · split <;> omega
  · omega
/-- A number's bits. -/
def U (n : Int) : Int := n % 18446744073709551616
theorem U_bd (n : Int) : 0 ≤ U n ∧ U n < 18446744073709551616 := by unfold U; omega
theorem wrap_U (n : Int) : IntKind.u64.wrap n = U n := wrap_u64 n
theorem b_andNot_i64 (n : Int) : bits .andNot .i64 n (-9223372036854775808) = U n % 9223372036854775808 := by
  obtain ⟨h0, h1⟩ := U_bd n
  rw [← b_andNot (U n) h0 h1]
  unfold bits
  have e : BitVec.ofInt IntKind.i64.bits n = BitVec.ofInt IntKind.u64.bits (U n) := by
    show BitVec.ofInt 64 n = BitVec.ofInt 64 (U n)
    apply BitVec.eq_of_toInt_eq
    simp only [BitVec.toInt_ofInt]
    unfold U
    show Int.bmod n (2 ^ 64) = Int.bmod (n % (2 ^ 64 : Nat)) (2 ^ 64)
    rw [Int.emod_bmod]
  have e2 : BitVec.ofInt IntKind.i64.bits (-9223372036854775808) = BitVec.ofInt IntKind.u64.bits 9223372036854775808 := by
    show BitVec.ofInt 64 (-9223372036854775808) = BitVec.ofInt 64 9223372036854775808
    decide
  rw [e, e2]
  obtain ⟨v, hv⟩ : ∃ v : BitVec 64, BitVec.ofInt IntKind.u64.bits (U n) = v := ⟨_, rfl⟩
  rw [hv]
  show IntKind.i64.wrap ((v &&& ~~~ BitVec.ofInt 64 9223372036854775808).toNat : Int) = IntKind.u64.wrap ((v &&& ~~~ BitVec.ofInt 64 9223372036854775808).toNat : Int)
  have h : ~~~ BitVec.ofInt 64 9223372036854775808 = BitVec.ofNat 64 (2 ^ 63 - 1) := by decide
  have hb : (v &&& ~~~ BitVec.ofInt 64 9223372036854775808).toNat < 9223372036854775808 := by
    rw [h, BitVec.toNat_and, BitVec.toNat_ofNat]
    have : v.toNat &&& (2 ^ 63 - 1) % 2 ^ 64 ≤ (2 ^ 63 - 1) % 2 ^ 64 := Nat.and_le_right
    have e : (2 ^ 63 - 1) % 2 ^ 64 = 9223372036854775807 := by decide
    omega
  generalize (v &&& ~~~ BitVec.ofInt 64 9223372036854775808).toNat = q at hb
  rw [IntKind.wrap_i64, wrap_u64]
  omega
/-- The document's rank. -/
def rrank (n : Int) : Int := if rightU (U n) = true ∧ n ≠ 9221120237041090560 then (if n < 0 then -1 - U n % 9223372036854775808 else n) else 9223372036854775807
theorem U_nan (n : Int) (h : -9223372036854775808 ≤ n ∧ n ≤ 9223372036854775807) : (U n == 9221120237041090560) = (n == 9221120237041090560) := by
  unfold U
  rw [Bool.eq_iff_iff, beq_iff_eq, beq_iff_eq]
  omega
theorem rightU_iff (n : Int) : rightU (U n) = true ↔ U n % 9223372036854775808 ≤ 9218868437227405312 ∨ U n = 9221120237041090560 := by
  unfold rightU
  simp
theorem sgn_eq {x y p q : Int} (h1 : x < y ↔ p < q) (h2 : y < x ↔ q < p) : sgn x y = sgn p q := by
  unfold sgn
  simp only [h1, h2]
theorem rank_sgn (a b : Int) (ha : -9223372036854775808 ≤ a ∧ a ≤ 9223372036854775807) (hb : -9223372036854775808 ≤ b ∧ b ≤ 9223372036854775807) : sgn (rrank a) (rrank b) = sgn (rankU (U a)) (rankU (U b)) := by
  have key : ∀ n : Int, -9223372036854775808 ≤ n → n ≤ 9223372036854775807 → (rrank n + 9223372036854775808 = rankU (U n) ∧ rrank n ≤ 9218868437227405312) ∨ (rrank n = 9223372036854775807 ∧ rankU (U n) = 18444492273895866368) := by
    intro n h0 h1
    have hr := rightU_iff n
    unfold rrank rankU
    by_cases h : rightU (U n) = true
    · by_cases hn : n = 9221120237041090560
      · right
        subst hn
        refine ⟨by simp, ?_⟩
        have : U 9221120237041090560 = 9221120237041090560 := by unfold U; omega
        rw [this] at h ⊢
        rw [if_pos h]
        decide
      · left
        rw [if_pos ⟨h, hn⟩, if_pos h]
        have := hr.1 h
        clear h hr
        unfold U at *
        split <;> split <;> omega
    · right
      exact ⟨by rw [if_neg (fun hh => h hh.1)], by rw [if_neg h]⟩
  have ka := key a ha.1 ha.2
  have kb := key b hb.1 hb.2
  clear key
  generalize rrank a = x at *
  generalize rrank b = y at *
  generalize rankU (U a) = p at *
  generalize rankU (U b) = q at *
  rcases ka with ⟨k1, k2⟩ | ⟨k1, k2⟩ <;> rcases kb with ⟨k3, k4⟩ | ⟨k3, k4⟩ <;> exact sgn_eq (by omega) (by omega)
end Go.Proofs.YtikpmlginojnhaaGreatDoor.Fl
