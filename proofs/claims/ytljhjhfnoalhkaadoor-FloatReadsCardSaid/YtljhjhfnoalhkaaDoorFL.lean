/- Floating numbers: the statements' walks: FloatOrder, FloatReads. -/
import Derived.Test.YtljhjhfnoalhkaaDoorFK
namespace Go.Proofs.YtljhjhfnoalhkaaDoor.Fl
open Go.RowKit Go.Maps
set_option linter.unusedVariables false
set_option linter.unusedSimpArgs false
theorem ord_cases (a b : Int) (x y : Nat) (ha : Wf a) (hb : Wf b) (hx : (U a).toNat = x) (hy : (U b).toNat = y) :
    (FloatKind.f64.format.order x y = none) ∨ (FloatKind.f64.format.order x y = some .lt ∧ sgn (rankU (U a)) (rankU (U b)) = -1) ∨ (FloatKind.f64.format.order x y = some .gt ∧ sgn (rankU (U a)) (rankU (U b)) = 1) ∨ (FloatKind.f64.format.order x y = some .eq ∧ (sgn (rankU (U a)) (rankU (U b)) == 0) = (a == b)) := by
  subst hx hy
  have h1 := U_bd a
  have h2 := U_bd b
  rw [fmt]
  by_cases na : U a % 9223372036854775808 ≤ 9218868437227405312
  · by_cases nb : U b % 9223372036854775808 ≤ 9218868437227405312
    · right
      rw [order_ok _ _ h1.1 h1.2 h2.1 h2.2 na nb]
      have ra : rightU (U a) = true := (rightU_iff a).2 (Or.inl na)
      have rb : rightU (U b) = true := (rightU_iff b).2 (Or.inl nb)
      have rka : rankU (U a) = if U a < 9223372036854775808 then U a + 9223372036854775808 else 18446744073709551615 - U a := by unfold rankU; rw [if_pos ra]
      have rkb : rankU (U b) = if U b < 9223372036854775808 then U b + 9223372036854775808 else 18446744073709551615 - U b := by unfold rankU; rw [if_pos rb]
      have sa : sg (neg (U a)) (rung (U a)) = if 9223372036854775808 ≤ U a then 9223372036854775808 - U a else U a := by
        unfold sg neg rung
        by_cases h : 9223372036854775808 ≤ U a
        · rw [decide_eq_true h, if_pos rfl, if_pos h]; omega
        · rw [decide_eq_false h, if_neg (by decide), if_neg h]; omega
      have sb : sg (neg (U b)) (rung (U b)) = if 9223372036854775808 ≤ U b then 9223372036854775808 - U b else U b := by
        unfold sg neg rung
        by_cases h : 9223372036854775808 ≤ U b
        · rw [decide_eq_true h, if_pos rfl, if_pos h]; omega
        · rw [decide_eq_false h, if_neg (by decide), if_neg h]; omega
      generalize rankU (U a) = p at *
      generalize rankU (U b) = q at *
      rw [sa, sb]
      clear ra rb sa sb na nb
      have hab : U a = U b ↔ a = b := ⟨fun h => U_inj ha hb h, fun h => by rw [h]⟩
      generalize U a = u at *
      generalize U b = v at *
      rcases Int.lt_trichotomy (if 9223372036854775808 ≤ u then 9223372036854775808 - u else u) (if 9223372036854775808 ≤ v then 9223372036854775808 - v else v) with h | h | h
      · left
        refine ⟨by rw [cmp_lt h], ?_⟩
        have : p < q := by
          rw [rka, rkb]
          split at h <;> split at h <;> split <;> split <;> omega
        unfold sgn
        rw [if_pos this]
      · right; right
        refine ⟨?_, ?_⟩
        · simp only [compare, compareOfLessAndEq]
          rw [if_neg (by omega), if_pos h]
        · rw [Bool.eq_iff_iff, beq_iff_eq, beq_iff_eq, ← hab]
          have : sgn p q = 0 ↔ p = q := by
            unfold sgn
            split
            · omega
            · split <;> omega
          rw [this, rka, rkb]
          split <;> split <;> omega
      · right; left
        refine ⟨by rw [cmp_gt h], ?_⟩
        have : q < p := by
          rw [rka, rkb]
          split at h <;> split at h <;> split <;> split <;> omega
        unfold sgn
        rw [if_neg (by omega), if_pos this]
    · left
      exact order_nan _ _ h1.1 h1.2 h2.1 h2.2 (Or.inr nb)
  · left
    exact order_nan _ _ h1.1 h1.2 h2.1 h2.2 (Or.inl na)
set_option maxHeartbeats 8000000 in
set_option maxRecDepth 100000 in
theorem floatOrder (w : World) (a b c : Int) (ha : Wf a) (hb : Wf b) (hc : Wf c) (hg : Gl w) : Calls Tryd.prog 5 #[.int .i64 a, .int .i64 b, .int .i64 c] w fun e w' => e = .returned (.bool true) ∧ Below w.heap.size w w' := by
  have C0 := Lib.hid (c_alive w hg)
  obtain ⟨x, hx⟩ : ∃ x, (U a).toNat = x := ⟨_, rfl⟩
  obtain ⟨y, hy⟩ : ∃ y, (U b).toNat = y := ⟨_, rfl⟩
  have C1 := Lib.hid (c_to a x hx)
  have C2 := Lib.hid (c_to b y hy)
  have hO := ord_cases a b x y ha hb hx hy
  have C3 := Lib.hid (c_order a b)
  have C4 := Lib.hid (c_order b a)
  have C5 := Lib.hid (c_order a a)
  have C6 := Lib.hid (c_order b c)
  have C7 := Lib.hid (c_order a c)
  have haa : sgn (rankU (U a)) (rankU (U a)) = 0 := by unfold sgn; rw [if_neg (by omega), if_neg (by omega)]
  have hba := sgn_anti (rankU (U a)) (rankU (U b))
  have hbd := sgn_bd (rankU (U b)) (rankU (U a))
  have htr : sgn (rankU (U a)) (rankU (U b)) < 0 → sgn (rankU (U b)) (rankU (U c)) < 0 → sgn (rankU (U a)) (rankU (U c)) < 0 := by
    rw [sgn_lt, sgn_lt, sgn_lt]
    omega
  rw [haa] at C5
  generalize sgn (rankU (U a)) (rankU (U b)) = oab at *
  generalize sgn (rankU (U b)) (rankU (U a)) = oba at *
  generalize sgn (rankU (U b)) (rankU (U c)) = obc at *
  generalize sgn (rankU (U a)) (rankU (U c)) = oac at *
  have hw : wrap64 (-oba) = oab := by unfold wrap64; omega
  have HA := Lib.hid htr
  have HO := Lib.hid hO
  clear hg ha hb hc hx hy haa hba hbd htr hO
  by_cases l1 : oab < 0
  · have t1 : decide (oab < 0) = true := decide_eq_true l1
    by_cases l2 : obc < 0
    · have t2 : decide (obc < 0) = true := decide_eq_true l2
      have l3 := HA.out l1 l2
      have t3 : decide (0 ≤ oac) = false := decide_eq_false (by omega)
      clear l1 l2 l3 HA
      rcases HO.out with h | ⟨h, h2⟩ | ⟨h, h2⟩ | ⟨h, h2⟩
      · clear HO
        go_enter Tryd.func5, Tryd.ntmps5
        go_wp2_with (first | (go_at_call 9; refine C0.out.mono ?_; rintro e w1 ⟨rfl, hb⟩; have HW := Lib.hid hb; clear hb) | (go_at_call 19; ((with_reducible refine (C1.out _).mono ?_); rintro e w' ⟨rfl, rfl⟩)) | (go_at_call 19; ((with_reducible refine (C2.out _).mono ?_); rintro e w' ⟨rfl, rfl⟩)) | (go_at_call 12; ((with_reducible refine (C3.out _).mono ?_); rintro e w' ⟨rfl, rfl⟩)) | (go_at_call 12; ((with_reducible refine (C4.out _).mono ?_); rintro e w' ⟨rfl, rfl⟩)) | (go_at_call 12; ((with_reducible refine (C5.out _).mono ?_); rintro e w' ⟨rfl, rfl⟩)) | (go_at_call 12; ((with_reducible refine (C6.out _).mono ?_); rintro e w' ⟨rfl, rfl⟩)) | (go_at_call 12; ((with_reducible refine (C7.out _).mono ?_); rintro e w' ⟨rfl, rfl⟩)))
        go_ret
        exact ⟨rfl, HW.out⟩
      · clear HO
        have h3 : (oab != -1) = false := by simp [h2]
        have H2 := Lib.hid h2
        clear h2
        go_enter Tryd.func5, Tryd.ntmps5
        go_wp2_with (first | (go_at_call 9; refine C0.out.mono ?_; rintro e w1 ⟨rfl, hb⟩; have HW := Lib.hid hb; clear hb) | (go_at_call 19; ((with_reducible refine (C1.out _).mono ?_); rintro e w' ⟨rfl, rfl⟩)) | (go_at_call 19; ((with_reducible refine (C2.out _).mono ?_); rintro e w' ⟨rfl, rfl⟩)) | (go_at_call 12; ((with_reducible refine (C3.out _).mono ?_); rintro e w' ⟨rfl, rfl⟩)) | (go_at_call 12; ((with_reducible refine (C4.out _).mono ?_); rintro e w' ⟨rfl, rfl⟩)) | (go_at_call 12; ((with_reducible refine (C5.out _).mono ?_); rintro e w' ⟨rfl, rfl⟩)) | (go_at_call 12; ((with_reducible refine (C6.out _).mono ?_); rintro e w' ⟨rfl, rfl⟩)) | (go_at_call 12; ((with_reducible refine (C7.out _).mono ?_); rintro e w' ⟨rfl, rfl⟩)))
        go_ret
        exact ⟨rfl, HW.out⟩
      · clear HO
        have h3 : (oab != 1) = false := by simp [h2]
        have H2 := Lib.hid h2
        clear h2
        go_enter Tryd.func5, Tryd.ntmps5
        go_wp2_with (first | (go_at_call 9; refine C0.out.mono ?_; rintro e w1 ⟨rfl, hb⟩; have HW := Lib.hid hb; clear hb) | (go_at_call 19; ((with_reducible refine (C1.out _).mono ?_); rintro e w' ⟨rfl, rfl⟩)) | (go_at_call 19; ((with_reducible refine (C2.out _).mono ?_); rintro e w' ⟨rfl, rfl⟩)) | (go_at_call 12; ((with_reducible refine (C3.out _).mono ?_); rintro e w' ⟨rfl, rfl⟩)) | (go_at_call 12; ((with_reducible refine (C4.out _).mono ?_); rintro e w' ⟨rfl, rfl⟩)) | (go_at_call 12; ((with_reducible refine (C5.out _).mono ?_); rintro e w' ⟨rfl, rfl⟩)) | (go_at_call 12; ((with_reducible refine (C6.out _).mono ?_); rintro e w' ⟨rfl, rfl⟩)) | (go_at_call 12; ((with_reducible refine (C7.out _).mono ?_); rintro e w' ⟨rfl, rfl⟩)))
        go_ret
        exact ⟨rfl, HW.out⟩
      · clear HO
        obtain ⟨r, hr⟩ : ∃ r, (a == b) = r := ⟨_, rfl⟩
        rw [hr] at h2
        go_enter Tryd.func5, Tryd.ntmps5
        go_wp2_with (first | (go_at_call 9; refine C0.out.mono ?_; rintro e w1 ⟨rfl, hb⟩; have HW := Lib.hid hb; clear hb) | (go_at_call 19; ((with_reducible refine (C1.out _).mono ?_); rintro e w' ⟨rfl, rfl⟩)) | (go_at_call 19; ((with_reducible refine (C2.out _).mono ?_); rintro e w' ⟨rfl, rfl⟩)) | (go_at_call 12; ((with_reducible refine (C3.out _).mono ?_); rintro e w' ⟨rfl, rfl⟩)) | (go_at_call 12; ((with_reducible refine (C4.out _).mono ?_); rintro e w' ⟨rfl, rfl⟩)) | (go_at_call 12; ((with_reducible refine (C5.out _).mono ?_); rintro e w' ⟨rfl, rfl⟩)) | (go_at_call 12; ((with_reducible refine (C6.out _).mono ?_); rintro e w' ⟨rfl, rfl⟩)) | (go_at_call 12; ((with_reducible refine (C7.out _).mono ?_); rintro e w' ⟨rfl, rfl⟩)))
        go_ret
        exact ⟨rfl, HW.out⟩
    · have t2 : decide (obc < 0) = false := decide_eq_false l2
      clear l1 l2 HA
      rcases HO.out with h | ⟨h, h2⟩ | ⟨h, h2⟩ | ⟨h, h2⟩
      · clear HO
        go_enter Tryd.func5, Tryd.ntmps5
        go_wp2_with (first | (go_at_call 9; refine C0.out.mono ?_; rintro e w1 ⟨rfl, hb⟩; have HW := Lib.hid hb; clear hb) | (go_at_call 19; ((with_reducible refine (C1.out _).mono ?_); rintro e w' ⟨rfl, rfl⟩)) | (go_at_call 19; ((with_reducible refine (C2.out _).mono ?_); rintro e w' ⟨rfl, rfl⟩)) | (go_at_call 12; ((with_reducible refine (C3.out _).mono ?_); rintro e w' ⟨rfl, rfl⟩)) | (go_at_call 12; ((with_reducible refine (C4.out _).mono ?_); rintro e w' ⟨rfl, rfl⟩)) | (go_at_call 12; ((with_reducible refine (C5.out _).mono ?_); rintro e w' ⟨rfl, rfl⟩)) | (go_at_call 12; ((with_reducible refine (C6.out _).mono ?_); rintro e w' ⟨rfl, rfl⟩)) | (go_at_call 12; ((with_reducible refine (C7.out _).mono ?_); rintro e w' ⟨rfl, rfl⟩)))
        go_ret
        exact ⟨rfl, HW.out⟩
      · clear HO
        have h3 : (oab != -1) = false := by simp [h2]
        have H2 := Lib.hid h2
        clear h2
        go_enter Tryd.func5, Tryd.ntmps5
        go_wp2_with (first | (go_at_call 9; refine C0.out.mono ?_; rintro e w1 ⟨rfl, hb⟩; have HW := Lib.hid hb; clear hb) | (go_at_call 19; ((with_reducible refine (C1.out _).mono ?_); rintro e w' ⟨rfl, rfl⟩)) | (go_at_call 19; ((with_reducible refine (C2.out _).mono ?_); rintro e w' ⟨rfl, rfl⟩)) | (go_at_call 12; ((with_reducible refine (C3.out _).mono ?_); rintro e w' ⟨rfl, rfl⟩)) | (go_at_call 12; ((with_reducible refine (C4.out _).mono ?_); rintro e w' ⟨rfl, rfl⟩)) | (go_at_call 12; ((with_reducible refine (C5.out _).mono ?_); rintro e w' ⟨rfl, rfl⟩)) | (go_at_call 12; ((with_reducible refine (C6.out _).mono ?_); rintro e w' ⟨rfl, rfl⟩)) | (go_at_call 12; ((with_reducible refine (C7.out _).mono ?_); rintro e w' ⟨rfl, rfl⟩)))
        go_ret
        exact ⟨rfl, HW.out⟩
      · clear HO
        have h3 : (oab != 1) = false := by simp [h2]
        have H2 := Lib.hid h2
        clear h2
        go_enter Tryd.func5, Tryd.ntmps5
        go_wp2_with (first | (go_at_call 9; refine C0.out.mono ?_; rintro e w1 ⟨rfl, hb⟩; have HW := Lib.hid hb; clear hb) | (go_at_call 19; ((with_reducible refine (C1.out _).mono ?_); rintro e w' ⟨rfl, rfl⟩)) | (go_at_call 19; ((with_reducible refine (C2.out _).mono ?_); rintro e w' ⟨rfl, rfl⟩)) | (go_at_call 12; ((with_reducible refine (C3.out _).mono ?_); rintro e w' ⟨rfl, rfl⟩)) | (go_at_call 12; ((with_reducible refine (C4.out _).mono ?_); rintro e w' ⟨rfl, rfl⟩)) | (go_at_call 12; ((with_reducible refine (C5.out _).mono ?_); rintro e w' ⟨rfl, rfl⟩)) | (go_at_call 12; ((with_reducible refine (C6.out _).mono ?_); rintro e w' ⟨rfl, rfl⟩)) | (go_at_call 12; ((with_reducible refine (C7.out _).mono ?_); rintro e w' ⟨rfl, rfl⟩)))
        go_ret
        exact ⟨rfl, HW.out⟩
      · clear HO
        obtain ⟨r, hr⟩ : ∃ r, (a == b) = r := ⟨_, rfl⟩
        rw [hr] at h2
        go_enter Tryd.func5, Tryd.ntmps5
        go_wp2_with (first | (go_at_call 9; refine C0.out.mono ?_; rintro e w1 ⟨rfl, hb⟩; have HW := Lib.hid hb; clear hb) | (go_at_call 19; ((with_reducible refine (C1.out _).mono ?_); rintro e w' ⟨rfl, rfl⟩)) | (go_at_call 19; ((with_reducible refine (C2.out _).mono ?_); rintro e w' ⟨rfl, rfl⟩)) | (go_at_call 12; ((with_reducible refine (C3.out _).mono ?_); rintro e w' ⟨rfl, rfl⟩)) | (go_at_call 12; ((with_reducible refine (C4.out _).mono ?_); rintro e w' ⟨rfl, rfl⟩)) | (go_at_call 12; ((with_reducible refine (C5.out _).mono ?_); rintro e w' ⟨rfl, rfl⟩)) | (go_at_call 12; ((with_reducible refine (C6.out _).mono ?_); rintro e w' ⟨rfl, rfl⟩)) | (go_at_call 12; ((with_reducible refine (C7.out _).mono ?_); rintro e w' ⟨rfl, rfl⟩)))
        go_ret
        exact ⟨rfl, HW.out⟩
  · have t1 : decide (oab < 0) = false := decide_eq_false l1
    clear l1 HA
    rcases HO.out with h | ⟨h, h2⟩ | ⟨h, h2⟩ | ⟨h, h2⟩
    · clear HO
      go_enter Tryd.func5, Tryd.ntmps5
      go_wp2_with (first | (go_at_call 9; refine C0.out.mono ?_; rintro e w1 ⟨rfl, hb⟩; have HW := Lib.hid hb; clear hb) | (go_at_call 19; ((with_reducible refine (C1.out _).mono ?_); rintro e w' ⟨rfl, rfl⟩)) | (go_at_call 19; ((with_reducible refine (C2.out _).mono ?_); rintro e w' ⟨rfl, rfl⟩)) | (go_at_call 12; ((with_reducible refine (C3.out _).mono ?_); rintro e w' ⟨rfl, rfl⟩)) | (go_at_call 12; ((with_reducible refine (C4.out _).mono ?_); rintro e w' ⟨rfl, rfl⟩)) | (go_at_call 12; ((with_reducible refine (C5.out _).mono ?_); rintro e w' ⟨rfl, rfl⟩)) | (go_at_call 12; ((with_reducible refine (C6.out _).mono ?_); rintro e w' ⟨rfl, rfl⟩)) | (go_at_call 12; ((with_reducible refine (C7.out _).mono ?_); rintro e w' ⟨rfl, rfl⟩)))
      go_ret
      exact ⟨rfl, HW.out⟩
    · clear HO
      have h3 : (oab != -1) = false := by simp [h2]
      have H2 := Lib.hid h2
      clear h2
      go_enter Tryd.func5, Tryd.ntmps5
      go_wp2_with (first | (go_at_call 9; refine C0.out.mono ?_; rintro e w1 ⟨rfl, hb⟩; have HW := Lib.hid hb; clear hb) | (go_at_call 19; ((with_reducible refine (C1.out _).mono ?_); rintro e w' ⟨rfl, rfl⟩)) | (go_at_call 19; ((with_reducible refine (C2.out _).mono ?_); rintro e w' ⟨rfl, rfl⟩)) | (go_at_call 12; ((with_reducible refine (C3.out _).mono ?_); rintro e w' ⟨rfl, rfl⟩)) | (go_at_call 12; ((with_reducible refine (C4.out _).mono ?_); rintro e w' ⟨rfl, rfl⟩)) | (go_at_call 12; ((with_reducible refine (C5.out _).mono ?_); rintro e w' ⟨rfl, rfl⟩)) | (go_at_call 12; ((with_reducible refine (C6.out _).mono ?_); rintro e w' ⟨rfl, rfl⟩)) | (go_at_call 12; ((with_reducible refine (C7.out _).mono ?_); rintro e w' ⟨rfl, rfl⟩)))
      go_ret
      exact ⟨rfl, HW.out⟩
    · clear HO
      have h3 : (oab != 1) = false := by simp [h2]
      have H2 := Lib.hid h2
      clear h2
      go_enter Tryd.func5, Tryd.ntmps5
      go_wp2_with (first | (go_at_call 9; refine C0.out.mono ?_; rintro e w1 ⟨rfl, hb⟩; have HW := Lib.hid hb; clear hb) | (go_at_call 19; ((with_reducible refine (C1.out _).mono ?_); rintro e w' ⟨rfl, rfl⟩)) | (go_at_call 19; ((with_reducible refine (C2.out _).mono ?_); rintro e w' ⟨rfl, rfl⟩)) | (go_at_call 12; ((with_reducible refine (C3.out _).mono ?_); rintro e w' ⟨rfl, rfl⟩)) | (go_at_call 12; ((with_reducible refine (C4.out _).mono ?_); rintro e w' ⟨rfl, rfl⟩)) | (go_at_call 12; ((with_reducible refine (C5.out _).mono ?_); rintro e w' ⟨rfl, rfl⟩)) | (go_at_call 12; ((with_reducible refine (C6.out _).mono ?_); rintro e w' ⟨rfl, rfl⟩)) | (go_at_call 12; ((with_reducible refine (C7.out _).mono ?_); rintro e w' ⟨rfl, rfl⟩)))
      go_ret
      exact ⟨rfl, HW.out⟩
    · clear HO
      obtain ⟨r, hr⟩ : ∃ r, (a == b) = r := ⟨_, rfl⟩
      rw [hr] at h2
      go_enter Tryd.func5, Tryd.ntmps5
      go_wp2_with (first | (go_at_call 9; refine C0.out.mono ?_; rintro e w1 ⟨rfl, hb⟩; have HW := Lib.hid hb; clear hb) | (go_at_call 19; ((with_reducible refine (C1.out _).mono ?_); rintro e w' ⟨rfl, rfl⟩)) | (go_at_call 19; ((with_reducible refine (C2.out _).mono ?_); rintro e w' ⟨rfl, rfl⟩)) | (go_at_call 12; ((with_reducible refine (C3.out _).mono ?_); rintro e w' ⟨rfl, rfl⟩)) | (go_at_call 12; ((with_reducible refine (C4.out _).mono ?_); rintro e w' ⟨rfl, rfl⟩)) | (go_at_call 12; ((with_reducible refine (C5.out _).mono ?_); rintro e w' ⟨rfl, rfl⟩)) | (go_at_call 12; ((with_reducible refine (C6.out _).mono ?_); rintro e w' ⟨rfl, rfl⟩)) | (go_at_call 12; ((with_reducible refine (C7.out _).mono ?_); rintro e w' ⟨rfl, rfl⟩)))
      go_ret
      exact ⟨rfl, HW.out⟩
end Go.Proofs.YtljhjhfnoalhkaaDoor.Fl
