/- Floating numbers: walks of the document's leaf functions. -/
import Derived.Test.YtikpmlginojnhaaGreatDoorF1
namespace Go.Proofs.YtikpmlginojnhaaGreatDoor.Fl
open Go.RowKit
set_option linter.unusedVariables false
set_option linter.unusedSimpArgs false
theorem c_size (n : Int) (m : Int) (hm : U n % 9223372036854775808 = m) (w : World) :
    Calls Tryz.prog 58 #[.int .i64 n] w fun e w' => e = .returned (.int .i64 m) ∧ w = w' := by
  have h := b_andNot_i64 n
  rw [hm] at h
  clear hm
  go_enter Tryz.func58, Tryz.ntmps58
  go_wp2
  go_ret
  exact ⟨rfl, rfl⟩
theorem rright_cases (n : Int) (hn : -9223372036854775808 ≤ n ∧ n ≤ 9223372036854775807) (b : Bool) (hb : rightU (U n) = b) : (U n % 9223372036854775808 ≤ 9218868437227405312 ∧ b = true) ∨ (¬ U n % 9223372036854775808 ≤ 9218868437227405312 ∧ (n == 9221120237041090560) = b) := by
  rcases right_cases (U n) b hb with h | ⟨h1, h2⟩
  · exact Or.inl h
  · exact Or.inr ⟨h1, by rw [← U_nan n hn, h2]⟩
theorem c_rright (n : Int) (hn : -9223372036854775808 ≤ n ∧ n ≤ 9223372036854775807) (b : Bool) (hb : rightU (U n) = b) (w : World) :
    Calls Tryz.prog 32 #[.int .i64 n] w fun e w' => e = .returned (.bool b) ∧ w = w' := by
  have C1 := Lib.hid (c_size n _ rfl)
  rcases rright_cases n hn b hb with ⟨h, rfl⟩ | ⟨h, rfl⟩
  · generalize U n % 9223372036854775808 = m at *
    have hd : decide (m ≤ 9218868437227405312) = true := decide_eq_true h
    clear hb h hn
    go_enter Tryz.func32, Tryz.ntmps32
    go_wp2_with (go_at_call 58; refine (C1.out _).mono ?_; rintro e w' ⟨rfl, rfl⟩)
    go_ret
    exact ⟨rfl, rfl⟩
  · generalize U n % 9223372036854775808 = m at *
    have hd : decide (m ≤ 9218868437227405312) = false := decide_eq_false h
    clear hb h hn
    go_enter Tryz.func32, Tryz.ntmps32
    go_wp2_with (go_at_call 58; refine (C1.out _).mono ?_; rintro e w' ⟨rfl, rfl⟩)
    go_ret
    exact ⟨rfl, rfl⟩
theorem c_rrank (n : Int) (hn : -9223372036854775808 ≤ n ∧ n ≤ 9223372036854775807) (r : Int) (hr : rrank n = r) (w : World) :
    Calls Tryz.prog 62 #[.int .i64 n] w fun e w' => e = .returned (.int .i64 r) ∧ w = w' := by
  have C1 := Lib.hid (c_size n _ rfl)
  have C2 := Lib.hid (c_rright n hn _ rfl)
  unfold rrank at hr
  cases hb : rightU (U n) with
  | false =>
    rw [hb] at C2
    rw [if_neg (by rw [hb]; simp)] at hr
    subst hr
    clear hb C1 hn
    go_enter Tryz.func62, Tryz.ntmps62
    go_wp2_with (go_at_call 32; refine (C2.out _).mono ?_; rintro e w' ⟨rfl, rfl⟩)
    go_ret
    exact ⟨rfl, rfl⟩
  | true =>
    rw [hb] at C2
    by_cases hx : n = 9221120237041090560
    · rw [if_neg (by rw [hb]; simp [hx])] at hr
      subst hr
      have hq : (n == 9221120237041090560) = true := by simp [hx]
      clear hb C1 hn hx
      go_enter Tryz.func62, Tryz.ntmps62
      go_wp2_with (go_at_call 32; refine (C2.out _).mono ?_; rintro e w' ⟨rfl, rfl⟩)
      go_ret
      exact ⟨rfl, rfl⟩
    · rw [if_pos ⟨hb, hx⟩] at hr
      have hq : (n == 9221120237041090560) = false := by simp [hx]
      by_cases hz : n < 0
      · rw [if_pos hz] at hr
        have hd : decide (n < 0) = true := decide_eq_true hz
        have hw : wrap64 (-1 - U n % 9223372036854775808) = r := by unfold wrap64; omega
        generalize U n % 9223372036854775808 = m at *
        clear hb hn hx hz hr
        go_enter Tryz.func62, Tryz.ntmps62
        go_wp2_with (first | (go_at_call 32; refine (C2.out _).mono ?_; rintro e w' ⟨rfl, rfl⟩) | (go_at_call 58; refine (C1.out _).mono ?_; rintro e w' ⟨rfl, rfl⟩))
        go_ret
        exact ⟨by first | rfl | (show Ending.returned (.int .i64 (wrap64 (-1 - m))) = _; rw [hw]), rfl⟩
      · rw [if_neg hz] at hr
        subst hr
        have hd : decide (n < 0) = false := decide_eq_false hz
        clear hb hn hx hz C1
        go_enter Tryz.func62, Tryz.ntmps62
        go_wp2_with (go_at_call 32; refine (C2.out _).mono ?_; rintro e w' ⟨rfl, rfl⟩)
        go_ret
        exact ⟨rfl, rfl⟩
theorem c_rorder (n m : Int) (hn : -9223372036854775808 ≤ n ∧ n ≤ 9223372036854775807) (hm : -9223372036854775808 ≤ m ∧ m ≤ 9223372036854775807) (w : World) :
    Calls Tryz.prog 38 #[.int .i64 n, .int .i64 m] w fun e w' => e = .returned (.int .i64 (sgn (rankU (U n)) (rankU (U m)))) ∧ w = w' := by
  have C1 := Lib.hid (c_rrank n hn _ rfl)
  have C2 := Lib.hid (c_rrank m hm _ rfl)
  rw [← rank_sgn n m hn hm]
  generalize rrank n = p at *
  generalize rrank m = q at *
  unfold sgn
  clear hn hm
  by_cases h1 : p < q
  · rw [if_pos h1]
    have hd : decide (p < q) = true := decide_eq_true h1
    clear h1
    go_enter Tryz.func38, Tryz.ntmps38
    go_wp2_with (go_at_call 62; (first | ((with_reducible refine (C1.out _).mono ?_); rintro e w' ⟨rfl, rfl⟩) | ((with_reducible refine (C2.out _).mono ?_); rintro e w' ⟨rfl, rfl⟩)))
    go_ret
    exact ⟨rfl, rfl⟩
  · rw [if_neg h1]
    have hd : decide (p < q) = false := decide_eq_false h1
    by_cases h2 : q < p
    · rw [if_pos h2]
      have hd2 : decide (q < p) = true := decide_eq_true h2
      clear h1 h2
      go_enter Tryz.func38, Tryz.ntmps38
      go_wp2_with (go_at_call 62; (first | ((with_reducible refine (C1.out _).mono ?_); rintro e w' ⟨rfl, rfl⟩) | ((with_reducible refine (C2.out _).mono ?_); rintro e w' ⟨rfl, rfl⟩)))
      go_ret
      exact ⟨rfl, rfl⟩
    · rw [if_neg h2]
      have hd2 : decide (q < p) = false := decide_eq_false h2
      clear h1 h2
      go_enter Tryz.func38, Tryz.ntmps38
      go_wp2_with (go_at_call 62; (first | ((with_reducible refine (C1.out _).mono ?_); rintro e w' ⟨rfl, rfl⟩) | ((with_reducible refine (C2.out _).mono ?_); rintro e w' ⟨rfl, rfl⟩)))
      go_ret
      exact ⟨rfl, rfl⟩
end Go.Proofs.YtikpmlginojnhaaGreatDoor.Fl
