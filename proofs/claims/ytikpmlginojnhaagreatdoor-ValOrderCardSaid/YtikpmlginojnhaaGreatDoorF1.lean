/- Floating numbers: walks of the leaf functions. -/
import Derived.Test.YtikpmlginojnhaaGreatDoorF0
import Derived.Test.YtikpmlginojnhaaGreatDoorProg
import Derived.Below
import Derived.Tactics
import Derived.WalkKit
import Derived.WalkLawsBesides
import Derived.WalkSpells
import Derived.KernelRfl
import Derived.RowKit3
import Derived.Deep.QuietTactic
import Derived.BigQuiet
import Derived.Deep.DeepCutAuto
import Derived.Lib.Hide
import Derived.Outline
import Derived.Laws.Unary
import Derived.Deep.Draws
import Derived.Deep.AppendLies
import Derived.Maps.AppendAt
import Derived.OwnWalk
import Derived.Laws.MakeOwn
import Derived.Laws.OwnMore
import Derived.Deep.OwnRows
import Derived.Laws.Slices
import Derived.Deep.LoopGhost
import Derived.WideLaws
import Derived.Deep.CutBlock
import Derived.Deep.RegionHeld3
import Derived.Laws.Rows
import Derived.OrdersHeld
import Derived.RowKit
import Derived.OneCell
import Derived.Maps.OwnSet
import Derived.Maps.RangeWalk
import Derived.Maps.Views
import Derived.Deep.DeepFit
namespace Go.Proofs.YtikpmlginojnhaaGreatDoor.Fl
open Go.RowKit
set_option linter.unusedVariables false
set_option linter.unusedSimpArgs false
theorem max_u64 : IntKind.u64.max = 18446744073709551615 := by decide
theorem right_cases (u : Int) (b : Bool) (hb : rightU u = b) : (u % 9223372036854775808 ≤ 9218868437227405312 ∧ b = true) ∨ (¬ u % 9223372036854775808 ≤ 9218868437227405312 ∧ (u == 9221120237041090560) = b) := by
  subst hb
  unfold rightU
  by_cases h : u % 9223372036854775808 ≤ 9218868437227405312
  · exact Or.inl ⟨h, by simp [h]⟩
  · exact Or.inr ⟨h, by simp [h]⟩
theorem c_bright (u : Int) (h0 : 0 ≤ u) (h1 : u < 18446744073709551616) (b : Bool) (hb : rightU u = b) (w : World) :
    Calls Tryz.prog 56 #[.int .u64 u] w fun e w' => e = .returned (.bool b) ∧ w = w' := by
  have hm := b_andNot u h0 h1
  rcases right_cases u b hb with ⟨h, rfl⟩ | ⟨h, rfl⟩
  · generalize u % 9223372036854775808 = m at hm h
    have hd : decide (m ≤ 9218868437227405312) = true := decide_eq_true h
    clear hb h0 h1 h
    go_enter Tryz.func56, Tryz.ntmps56
    go_wp2
    go_ret
    exact ⟨rfl, rfl⟩
  · generalize u % 9223372036854775808 = m at hm h
    have hd : decide (m ≤ 9218868437227405312) = false := decide_eq_false h
    clear hb h0 h1 h
    go_enter Tryz.func56, Tryz.ntmps56
    go_wp2
    go_ret
    exact ⟨rfl, rfl⟩
theorem c_neg (u : Int) (h0 : 0 ≤ u) (h1 : u < 18446744073709551616) (b : Bool) (hb : decide (9223372036854775808 ≤ u) = b) (w : World) :
    Calls Tryz.prog 74 #[.int .u64 u] w fun e w' => e = .returned (.bool b) ∧ w = w' := by
  have hm := b_and u h0 h1
  subst hb
  by_cases h : u < 9223372036854775808
  · rw [if_pos h] at hm
    rw [decide_eq_false (by omega)]
    clear h h0 h1
    go_enter Tryz.func74, Tryz.ntmps74
    go_wp2
    go_ret
    exact ⟨rfl, rfl⟩
  · rw [if_neg h] at hm
    rw [decide_eq_true (by omega)]
    clear h h0 h1
    go_enter Tryz.func74, Tryz.ntmps74
    go_wp2
    go_ret
    exact ⟨rfl, rfl⟩
theorem c_num (u : Int) (n : Int) (hn : wrap64 u = n) (w : World) :
    Calls Tryz.prog 84 #[.int .u64 u] w fun e w' => e = .returned (.int .i64 n) ∧ w = w' := by
  go_enter Tryz.func84, Tryz.ntmps84
  go_wp2
  go_ret
  exact ⟨by show Ending.returned (.int .i64 (wrap64 u)) = _; rw [hn], rfl⟩
theorem c_brank_right (u : Int) (h0 : 0 ≤ u) (h1 : u < 18446744073709551616) (hr : rightU u = true) (r : Int) (he : rankU u = r) (w : World) :
    Calls Tryz.prog 60 #[.int .u64 u] w fun e w' => e = .returned (.int .u64 r) ∧ w = w' := by
  have C1 := Lib.hid (c_bright u h0 h1 true hr)
  have C2 := Lib.hid (c_neg u h0 h1 _ rfl)
  unfold rankU at he
  rw [if_pos hr] at he
  by_cases h : u < 9223372036854775808
  · rw [if_pos h] at he
    have hm : bits .or .u64 u 9223372036854775808 = r := by rw [b_or u h0 h, he]
    rw [decide_eq_false (by omega)] at C2
    clear h h0 h1 hr he
    go_enter Tryz.func60, Tryz.ntmps60
    go_wp2_with (first | (go_at_call 56; refine (C1.out _).mono ?_; rintro e w' ⟨rfl, rfl⟩) | (go_at_call 74; refine (C2.out _).mono ?_; rintro e w' ⟨rfl, rfl⟩))
    go_ret
    exact ⟨rfl, rfl⟩
  · rw [if_neg h] at he
    have hm : bits .xor .u64 IntKind.u64.max u = r := by rw [max_u64, b_not u h0 h1, he]
    rw [decide_eq_true (by omega)] at C2
    clear h h0 h1 hr he
    go_enter Tryz.func60, Tryz.ntmps60
    go_wp2_with (first | (go_at_call 56; refine (C1.out _).mono ?_; rintro e w' ⟨rfl, rfl⟩) | (go_at_call 74; refine (C2.out _).mono ?_; rintro e w' ⟨rfl, rfl⟩))
    go_ret
    exact ⟨rfl, rfl⟩
theorem c_brank (u : Int) (h0 : 0 ≤ u) (h1 : u < 18446744073709551616) (r : Int) (he : rankU u = r) (w : World) :
    Calls Tryz.prog 60 #[.int .u64 u] w fun e w' => e = .returned (.int .u64 r) ∧ w = w' := by
  cases hr : rightU u with
  | true => exact c_brank_right u h0 h1 hr r he w
  | false =>
    have C1 := Lib.hid (c_bright u h0 h1 false hr)
    have hq : rankU u = rankU 9221120237041090560 := by
      unfold rankU
      rw [if_neg (by rw [hr]; decide)]
      decide
    have C3 := Lib.hid (c_brank_right 9221120237041090560 (by decide) (by decide) (by decide) r (by rw [← hq, he]))
    clear h0 h1 hr he hq
    go_enter Tryz.func60, Tryz.ntmps60
    go_wp2_with (first | (go_at_call 56; refine (C1.out _).mono ?_; rintro e w' ⟨rfl, rfl⟩) | (go_at_call 60; refine (C3.out _).mono ?_; rintro e w' ⟨rfl, rfl⟩))
    go_ret
    exact ⟨rfl, rfl⟩
theorem c_unrank (u : Int) (h0 : 0 ≤ u) (h1 : u < 18446744073709551616) (w : World) :
    Calls Tryz.prog 83 #[.int .u64 u] w fun e w' => e = .returned (.int .u64 (if 9223372036854775808 ≤ u then u - 9223372036854775808 else 18446744073709551615 - u)) ∧ w = w' := by
  have C2 := Lib.hid (c_neg u h0 h1 _ rfl)
  by_cases h : 9223372036854775808 ≤ u
  · rw [if_pos h]
    have hm : bits .andNot .u64 u 9223372036854775808 = u - 9223372036854775808 := by rw [b_andNot u h0 h1]; omega
    rw [decide_eq_true h] at C2
    generalize u - 9223372036854775808 = r at hm ⊢
    clear h h0 h1
    go_enter Tryz.func83, Tryz.ntmps83
    go_wp2_with (go_at_call 74; refine (C2.out _).mono ?_; rintro e w' ⟨rfl, rfl⟩)
    go_ret
    exact ⟨rfl, rfl⟩
  · rw [if_neg h]
    have hm : bits .xor .u64 IntKind.u64.max u = 18446744073709551615 - u := by rw [max_u64, b_not u h0 h1]
    rw [decide_eq_false h] at C2
    generalize 18446744073709551615 - u = r at hm ⊢
    clear h h0 h1
    go_enter Tryz.func83, Tryz.ntmps83
    go_wp2_with (go_at_call 74; refine (C2.out _).mono ?_; rintro e w' ⟨rfl, rfl⟩)
    go_ret
    exact ⟨rfl, rfl⟩
theorem c_right (n : Int) (b : Bool) (hb : rightU (U n) = b) (w : World) :
    Calls Tryz.prog 29 #[.int .i64 n] w fun e w' => e = .returned (.bool b) ∧ w = w' := by
  have hu : IntKind.u64.wrap n = U n := wrap_U n
  have C1 := Lib.hid (c_bright (U n) (U_bd n).1 (U_bd n).2 b hb)
  clear hb
  generalize U n = u at *
  go_enter Tryz.func29, Tryz.ntmps29
  go_wp2_with (go_at_call 56; refine (C1.out _).mono ?_; rintro e w' ⟨rfl, rfl⟩)
  go_ret
  exact ⟨rfl, rfl⟩
theorem c_order (n m : Int) (w : World) :
    Calls Tryz.prog 34 #[.int .i64 n, .int .i64 m] w fun e w' => e = .returned (.int .i64 (sgn (rankU (U n)) (rankU (U m)))) ∧ w = w' := by
  have hu : IntKind.u64.wrap n = U n := wrap_U n
  have hv : IntKind.u64.wrap m = U m := wrap_U m
  have C1 := Lib.hid (c_brank (U n) (U_bd n).1 (U_bd n).2 _ rfl)
  have C2 := Lib.hid (c_brank (U m) (U_bd m).1 (U_bd m).2 _ rfl)
  generalize rankU (U n) = p at *
  generalize rankU (U m) = q at *
  generalize U n = u at *
  generalize U m = v at *
  unfold sgn
  by_cases h1 : p < q
  · rw [if_pos h1]
    have hd : decide (p < q) = true := decide_eq_true h1
    clear h1
    go_enter Tryz.func34, Tryz.ntmps34
    go_wp2_with (go_at_call 60; (first | ((with_reducible refine (C1.out _).mono ?_); rintro e w' ⟨rfl, rfl⟩) | ((with_reducible refine (C2.out _).mono ?_); rintro e w' ⟨rfl, rfl⟩)))
    go_ret
    exact ⟨rfl, rfl⟩
  · rw [if_neg h1]
    have hd : decide (p < q) = false := decide_eq_false h1
    by_cases h2 : q < p
    · rw [if_pos h2]
      have hd2 : decide (q < p) = true := decide_eq_true h2
      clear h1 h2
      go_enter Tryz.func34, Tryz.ntmps34
      go_wp2_with (go_at_call 60; (first | ((with_reducible refine (C1.out _).mono ?_); rintro e w' ⟨rfl, rfl⟩) | ((with_reducible refine (C2.out _).mono ?_); rintro e w' ⟨rfl, rfl⟩)))
      go_ret
      exact ⟨rfl, rfl⟩
    · rw [if_neg h2]
      have hd2 : decide (q < p) = false := decide_eq_false h2
      clear h1 h2
      go_enter Tryz.func34, Tryz.ntmps34
      go_wp2_with (go_at_call 60; (first | ((with_reducible refine (C1.out _).mono ?_); rintro e w' ⟨rfl, rfl⟩) | ((with_reducible refine (C2.out _).mono ?_); rintro e w' ⟨rfl, rfl⟩)))
      go_ret
      exact ⟨rfl, rfl⟩
end Go.Proofs.YtikpmlginojnhaaGreatDoor.Fl
