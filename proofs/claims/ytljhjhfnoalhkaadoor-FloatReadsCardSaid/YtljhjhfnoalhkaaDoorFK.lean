/- Floating numbers: the statements' walks: order and signs. -/
import Derived.Test.YtljhjhfnoalhkaaDoorFJ
namespace Go.Proofs.YtljhjhfnoalhkaaDoor.Fl
open Go.RowKit Go.Maps
set_option linter.unusedVariables false
set_option linter.unusedSimpArgs false
theorem xor_top (u : Nat) (h : u < 18446744073709551616) : u ^^^ 9223372036854775808 = (u + 9223372036854775808) % 18446744073709551616 := by
  have small : ∀ r : Nat, r < 9223372036854775808 → r ^^^ 9223372036854775808 = r + 9223372036854775808 := by
    intro r hr
    have hb : (9223372036854775808 : Nat) = 2 ^ 63 := by decide
    have e : r + 9223372036854775808 = 2 ^ 63 * 1 ||| r := by
      rw [← Nat.two_pow_add_eq_or_of_lt (by rw [← hb]; exact hr) 1]
      omega
    rw [e, Nat.mul_one]
    refine Nat.eq_of_testBit_eq (fun i => ?_)
    rw [Nat.testBit_xor, Nat.testBit_or, hb, Nat.testBit_two_pow]
    by_cases hi : 63 = i
    · subst hi
      rw [Nat.testBit_lt_two_pow (by rw [← hb]; exact hr)]
      rfl
    · simp [hi]
  by_cases hu : u < 9223372036854775808
  · rw [small u hu]
    omega
  · obtain ⟨r, rfl⟩ : ∃ r, u = r + 9223372036854775808 := ⟨u - 9223372036854775808, by omega⟩
    rw [← small r (by omega), Nat.xor_assoc, Nat.xor_self, Nat.xor_zero, small r (by omega)]
    omega
def flipN (n : Int) : Int := if n < 0 then n + 9223372036854775808 else n - 9223372036854775808
theorem b_xor_i64 (n : Int) (hn : Wf n) : bits .xor .i64 n (-9223372036854775808) = flipN n := by
  obtain ⟨h0, h1⟩ := U_bd n
  obtain ⟨u, hu⟩ : ∃ u : Nat, U n = u := ⟨(U n).toNat, by omega⟩
  have e : BitVec.ofInt IntKind.i64.bits n = BitVec.ofNat 64 u := by
    show BitVec.ofInt 64 n = BitVec.ofNat 64 u
    apply BitVec.eq_of_toInt_eq
    rw [← BitVec.ofInt_natCast, BitVec.toInt_ofInt, BitVec.toInt_ofInt, ← hu]
    unfold U
    show Int.bmod n (2 ^ 64) = Int.bmod (n % (2 ^ 64 : Nat)) (2 ^ 64)
    rw [Int.emod_bmod]
  have e2 : BitVec.ofInt IntKind.i64.bits (-9223372036854775808) = BitVec.ofNat 64 9223372036854775808 := by
    show BitVec.ofInt 64 (-9223372036854775808) = BitVec.ofNat 64 9223372036854775808
    decide
  unfold bits
  simp only [e, e2]
  show IntKind.i64.wrap ((BitVec.ofNat 64 u ^^^ BitVec.ofNat 64 9223372036854775808).toNat : Int) = _
  rw [BitVec.toNat_xor, BitVec.toNat_ofNat, BitVec.toNat_ofNat, Nat.mod_eq_of_lt (show u < 2 ^ 64 by omega), show 9223372036854775808 % 2 ^ 64 = 9223372036854775808 by decide, xor_top u (by omega), IntKind.wrap_i64]
  unfold flipN
  unfold Wf at hn
  unfold U at hu
  split <;> omega
theorem flip_parts (n : Int) (hn : Wf n) (hr : rightU (U n) = true) (hx : ¬ n = 9221120237041090560) : Wf (flipN n) ∧ rightU (U (flipN n)) = true ∧ rankU (U (flipN n)) = 18446744073709551615 - rankU (U n) := by
  have hi := rightU_iff n
  have hle : U n % 9223372036854775808 ≤ 9218868437227405312 := by
    rcases hi.1 hr with h | h
    · exact h
    · exfalso
      unfold U at h
      unfold Wf at hn
      omega
  have hu : U (flipN n) = (U n + 9223372036854775808) % 18446744073709551616 := by
    unfold flipN U
    unfold Wf at hn
    split <;> omega
  have h2 : rightU (U (flipN n)) = true := by
    rw [rightU_iff]
    left
    rw [hu]
    have := U_bd n
    omega
  refine ⟨?_, h2, ?_⟩
  · unfold Wf flipN
    unfold Wf at hn
    split <;> omega
  · unfold rankU
    rw [if_pos h2, if_pos hr, hu]
    have := U_bd n
    split <;> split <;> omega
theorem sgn_flip (p q : Int) : sgn (18446744073709551615 - p) (18446744073709551615 - q) = -sgn p q := by
  unfold sgn
  by_cases h1 : p < q
  · rw [if_neg (by omega), if_pos (by omega), if_pos h1]; rfl
  · by_cases h2 : q < p
    · rw [if_pos (by omega), if_neg h1, if_pos h2]
    · rw [if_neg (by omega), if_neg (by omega), if_neg h1, if_neg h2]; rfl
theorem sgn_bd (p q : Int) : -1 ≤ sgn p q ∧ sgn p q ≤ 1 := by
  unfold sgn
  split
  · omega
  · split <;> omega
theorem sgn_lt (p q : Int) : sgn p q < 0 ↔ p < q := by
  unfold sgn
  split
  · omega
  · split <;> omega
theorem sgn_anti (p q : Int) : sgn p q = -sgn q p := by
  unfold sgn
  by_cases h1 : p < q
  · rw [if_pos h1, if_neg (by omega), if_pos h1]
  · by_cases h2 : q < p
    · rw [if_neg h1, if_pos h2, if_pos h2]; rfl
    · rw [if_neg h1, if_neg h2, if_neg h2, if_neg h1]; rfl
set_option maxHeartbeats 4000000 in
set_option maxRecDepth 100000 in
theorem floatSigns (w : World) (a b : Int) (ha : Wf a) (hb : Wf b) (hg : Gl w) : Calls Tryd.prog 6 #[.int .i64 a, .int .i64 b] w fun e w' => e = .returned (.bool true) ∧ Below w.heap.size w w' := by
  have C0 := Lib.hid (c_alive w hg)
  have HA := Lib.hid ha
  have HB := Lib.hid hb
  have C1 := Lib.hid (c_right a _ rfl)
  have C2 := Lib.hid (c_right b _ rfl)
  clear hg ha hb
  cases h1 : rightU (U a) with
  | false =>
    rw [h1] at C1
    clear h1 C2
    go_enter Tryd.func6, Tryd.ntmps6
    go_wp2_with (first | (go_at_call 9; refine C0.out.mono ?_; rintro e w1 ⟨rfl, hb⟩; have HW := Lib.hid hb; clear hb) | (go_at_call 10; ((with_reducible refine (C1.out _).mono ?_); rintro e w' ⟨rfl, rfl⟩)))
    go_ret
    exact ⟨rfl, HW.out⟩
  | true =>
    have H1 := Lib.hid h1
    rw [h1] at C1
    clear h1
    cases h2 : rightU (U b) with
    | false =>
      rw [h2] at C2
      clear h2
      go_enter Tryd.func6, Tryd.ntmps6
      go_wp2_with (first | (go_at_call 9; refine C0.out.mono ?_; rintro e w1 ⟨rfl, hb⟩; have HW := Lib.hid hb; clear hb) | (go_at_call 10; ((with_reducible refine (C1.out _).mono ?_); rintro e w' ⟨rfl, rfl⟩)) | (go_at_call 10; ((with_reducible refine (C2.out _).mono ?_); rintro e w' ⟨rfl, rfl⟩)))
      go_ret
      exact ⟨rfl, HW.out⟩
    | true =>
      have H2 := Lib.hid h2
      rw [h2] at C2
      clear h2
      by_cases n1 : a = 9221120237041090560
      · have t1 : (a == 9221120237041090560) = true := by simp [n1]
        clear n1
        go_enter Tryd.func6, Tryd.ntmps6
        go_wp2_with (first | (go_at_call 9; refine C0.out.mono ?_; rintro e w1 ⟨rfl, hb⟩; have HW := Lib.hid hb; clear hb) | (go_at_call 10; ((with_reducible refine (C1.out _).mono ?_); rintro e w' ⟨rfl, rfl⟩)) | (go_at_call 10; ((with_reducible refine (C2.out _).mono ?_); rintro e w' ⟨rfl, rfl⟩)))
        go_ret
        exact ⟨rfl, HW.out⟩
      · have t1 : (a == 9221120237041090560) = false := by simp [n1]
        by_cases n2 : b = 9221120237041090560
        · have t2 : (b == 9221120237041090560) = true := by simp [n2]
          clear n1 n2
          go_enter Tryd.func6, Tryd.ntmps6
          go_wp2_with (first | (go_at_call 9; refine C0.out.mono ?_; rintro e w1 ⟨rfl, hb⟩; have HW := Lib.hid hb; clear hb) | (go_at_call 10; ((with_reducible refine (C1.out _).mono ?_); rintro e w' ⟨rfl, rfl⟩)) | (go_at_call 10; ((with_reducible refine (C2.out _).mono ?_); rintro e w' ⟨rfl, rfl⟩)))
          go_ret
          exact ⟨rfl, HW.out⟩
        · have t2 : (b == 9221120237041090560) = false := by simp [n2]
          have fa := flip_parts a HA.out H1.out n1
          have fb := flip_parts b HB.out H2.out n2
          have xa := b_xor_i64 a HA.out
          have xb := b_xor_i64 b HB.out
          have C3 := Lib.hid (c_right (flipN a) true fa.2.1)
          have C4 := Lib.hid (c_right (flipN b) true fb.2.1)
          have C5 := Lib.hid (c_order a b)
          have C6 := Lib.hid (c_order (flipN a) (flipN b))
          rw [fa.2.2, fb.2.2, sgn_flip] at C6
          have hs := sgn_bd (rankU (U a)) (rankU (U b))
          generalize sgn (rankU (U a)) (rankU (U b)) = q at C5 C6 hs
          generalize flipN a = x at xa C3 C6
          generalize flipN b = y at xb C4 C6
          have hw : wrap64 (-q) = -q := by unfold wrap64; omega
          clear fa fb n1 n2 hs
          go_enter Tryd.func6, Tryd.ntmps6
          go_wp2_with (first | (go_at_call 9; refine C0.out.mono ?_; rintro e w1 ⟨rfl, hb⟩; have HW := Lib.hid hb; clear hb) | (go_at_call 10; ((with_reducible refine (C1.out _).mono ?_); rintro e w' ⟨rfl, rfl⟩)) | (go_at_call 10; ((with_reducible refine (C2.out _).mono ?_); rintro e w' ⟨rfl, rfl⟩)) | (go_at_call 10; ((with_reducible refine (C3.out _).mono ?_); rintro e w' ⟨rfl, rfl⟩)) | (go_at_call 10; ((with_reducible refine (C4.out _).mono ?_); rintro e w' ⟨rfl, rfl⟩)) | (go_at_call 12; ((with_reducible refine (C5.out _).mono ?_); rintro e w' ⟨rfl, rfl⟩)) | (go_at_call 12; ((with_reducible refine (C6.out _).mono ?_); rintro e w' ⟨rfl, rfl⟩)))
          go_ret
          exact ⟨rfl, HW.out⟩
end Go.Proofs.YtljhjhfnoalhkaaDoor.Fl
