/- Floats and their bits: To and Of. -/
import Derived.Test.YtljhjhfnoalhkaaDoorFG
import Derived.Laws.Externs
namespace Go.Proofs.YtljhjhfnoalhkaaDoor.Fl
open Go.RowKit Go.Maps
set_option linter.unusedVariables false
set_option linter.unusedSimpArgs false
theorem c_to (n : Int) (b : Nat) (hb : (U n).toNat = b) (w : World) : Calls Tryd.prog 19 #[.int .i64 n] w fun e w' => e = .returned (.float .f64 b) ∧ w = w' := by
  have hu : IntKind.u64.wrap n = U n := wrap_U n
  generalize U n = u at *
  have kx : ∀ w : World, (callFunc 31 #[.int .u64 u]).run Tryd.prog w = .ok (.value (.float .f64 b)) w := fun w => by
    rw [run_callFunc_extern (P := Tryd.prog) Tryd.func31 (by kernel_rfl) (by kernel_rfl) (by kernel_rfl) (e := Extern.MathFloatBits.float64frombits) (by kernel_rfl) #[.int .u64 u] w, ← hb]
    rfl
  clear hb
  go_enter Tryd.func19, Tryd.ntmps19
  go_wp2
  go_ret
  exact ⟨rfl, rfl⟩
theorem c_isnan (b : Nat) (r : Bool) (hr : (FloatKind.f64.format.order b b != some .eq) = r) (w : World) : Calls Tryd.prog 32 #[.float .f64 b] w fun e w' => e = .returned (.bool r) ∧ w = w' := by
  go_enter Tryd.func32, Tryd.ntmps32
  go_wp2
  go_ret
  exact ⟨rfl, rfl⟩
theorem c_of (b : Nat) (r : Bool) (hr : (FloatKind.f64.format.order b b != some .eq) = r) (m : Int) (hm : (if r = true then 9221120237041090560 else wrap64 (b : Int)) = m) (w : World) : Calls Tryd.prog 20 #[.float .f64 b] w fun e w' => e = .returned (.int .i64 m) ∧ w = w' := by
  have C1 := Lib.hid (c_isnan b r hr)
  clear hr
  cases r with
  | true =>
    rw [if_pos rfl] at hm
    have C2 := Lib.hid (c_num 9221120237041090560 m (by rw [← hm]; unfold wrap64; decide))
    clear hm
    go_enter Tryd.func20, Tryd.ntmps20
    go_wp2_with (first | (go_at_call 32; ((with_reducible refine (C1.out _).mono ?_); rintro e w' ⟨rfl, rfl⟩)) | (go_at_call 33; ((with_reducible refine (C2.out _).mono ?_); rintro e w' ⟨rfl, rfl⟩)))
    go_ret
    exact ⟨rfl, rfl⟩
  | false =>
    rw [if_neg (by decide)] at hm
    have C2 := Lib.hid (c_num (b : Int) m hm)
    have kx : ∀ w : World, (callFunc 34 #[.float .f64 b]).run Tryd.prog w = .ok (.value (.int .u64 (b : Int))) w := fun w => by
      rw [run_callFunc_extern (P := Tryd.prog) Tryd.func34 (by kernel_rfl) (by kernel_rfl) (by kernel_rfl) (e := Extern.MathFloatBits.float64bits) (by kernel_rfl) #[.float .f64 b] w]
      rfl
    clear hm
    go_enter Tryd.func20, Tryd.ntmps20
    go_wp2_with (first | (go_at_call 32; ((with_reducible refine (C1.out _).mono ?_); rintro e w' ⟨rfl, rfl⟩)) | (go_at_call 33; ((with_reducible refine (C2.out _).mono ?_); rintro e w' ⟨rfl, rfl⟩)))
    go_ret
    exact ⟨rfl, rfl⟩
theorem fmt : FloatKind.f64.format = Ieee.double := rfl
theorem nan_iff (n : Int) (b : Nat) (hb : (U n).toNat = b) : (FloatKind.f64.format.order b b != some .eq) = !decide (U n % 9223372036854775808 ≤ 9218868437227405312) := by
  subst hb
  have hb := U_bd n
  rw [fmt]
  by_cases h : U n % 9223372036854775808 ≤ 9218868437227405312
  · rw [order_ok _ _ hb.1 hb.2 hb.1 hb.2 h h, decide_eq_true h]
    have : compare (sg (neg (U n)) (rung (U n))) (sg (neg (U n)) (rung (U n))) = .eq := by
      simp only [compare, compareOfLessAndEq]
      rw [if_neg (by omega), if_pos trivial]
    rw [this]
    rfl
  · rw [order_nan _ _ hb.1 hb.2 hb.1 hb.2 (Or.inl h), decide_eq_false h]
    rfl
end Go.Proofs.YtljhjhfnoalhkaaDoor.Fl
