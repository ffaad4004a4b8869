/- FilterRows: the walk. -/
import Derived.Test.YthbgjaboghnpjaaR1
namespace Go.Proofs.Ythbgjaboghnpjaa.R
open Go.RowKit Go.Proofs.Ythbgjaboghnpjaa.Q Go.Proofs.Ythbgjaboghnpjaa.Pure Go.Proofs.YthbgjaboghnpjaaW.PrintWords Go.Proofs.YthbgjaboghnpjaaW.PrintLast Go.Proofs.YthbgjaboghnpjaaW.PrintMore
set_option linter.unusedVariables false
set_option linter.unusedSimpArgs false
set_option maxHeartbeats 4000000 in
set_option maxRecDepth 100000 in
theorem filterRows (w : World) (A : Option Addr) (c : Nat) (f0 : List ByteArray) (f1 f2 : ByteArray) (f3 f4 f5 f6 : Int) (A1 : Option Addr) (c1 : Nat) (l : List S29) (hf : Kd.C Kd.string w A f0.length f0) (hc : f0.length ≤ c) (hl : Kd.C k29 w A1 l.length l) (hc1 : l.length ≤ c1) :
    Calls Try.prog 7 #[.agg (fcells A c f0 f1 f2 f3 f4 f5 f6), .slice A1 l.length c1] w fun e w' => e = .returned (.bool true) ∧ Below w.heap.size w w' := by
  have HF := Lib.hid hf
  have HL := Lib.hid hl
  have HC := Lib.hid hc
  have HC1 := Lib.hid hc1
  clear hf hl hc hc1
  obtain ⟨b1, hb1, C1⟩ := long_ex f0 f1 f2 f3 f4 f5 f6 l
  have D1 := Lib.hid C1
  have E1 := Lib.hid hb1
  clear C1 hb1
  unfold fcells at *
  go_enter Try.func7, Try.ntmps7
  go_wp2_with fail
  refine (c_alive _).mono ?_
  rintro e w1 ⟨rfl, hb1⟩
  have HX := Lib.hid (X0.start.below hb1)
  clear hb1
  have q0 := HX.out.q0
  have q1 := HX.out.q1
  have q2 := HX.out.q2
  have q3 := HX.out.q3
  have q4 := HX.out.q4
  have q5 := HX.out.q5
  have q6 := HX.out.q6
  go_wp2_with fail
  refine (D1.out _ A c A1 c1 (Kd.C_below HF.out HX.out.bel) HC.out (Kd.C_below HL.out HX.out.bel) HC1.out).mono ?_
  rintro e w2 ⟨rfl, hb2⟩
  have HX2 := Lib.hid (HX.out.below hb2)
  clear hb2 HX
  clear q0 q1 q2 q3 q4 q5 q6
  have q0 := HX2.out.q0
  have q1 := HX2.out.q1
  have q2 := HX2.out.q2
  have q3 := HX2.out.q3
  have q4 := HX2.out.q4
  have q5 := HX2.out.q5
  have q6 := HX2.out.q6
  cases b1 with
  | true =>
    go_wp2_with fail
    go_ret
    exact ⟨rfl, HX2.out.bel⟩
  | false =>
    obtain ⟨hsf, hl80, hsm⟩ := E1.out rfl
    obtain ⟨b3, hb3, C3⟩ := rRight_ex f0 f1 f2 f3 f4 f5 f6 hsf
    have HSF := Lib.hid hsf
    have HSM := Lib.hid hsm
    have E3 := Lib.hid hb3
    have D3 := Lib.hid C3
    clear hsf hsm hb3 C3
    unfold fcells at *
    go_wp2_with fail
    refine (D3.out _ A c (Kd.C_below HF.out HX2.out.bel) HC.out).mono ?_
    rintro e w3 ⟨rfl, hb3⟩
    have HX3 := Lib.hid (HX2.out.below hb3)
    clear hb3 HX2
    clear q0 q1 q2 q3 q4 q5 q6
    have q0 := HX3.out.q0
    have q1 := HX3.out.q1
    have q2 := HX3.out.q2
    have q3 := HX3.out.q3
    have q4 := HX3.out.q4
    have q5 := HX3.out.q5
    have q6 := HX3.out.q6
    cases b3 with
    | false =>
      go_wp2_with fail
      go_ret
      exact ⟨rfl, HX3.out.bel⟩
    | true =>
      obtain ⟨hrb, hf60, hf50⟩ := E3.out rfl
      have HRB := Lib.hid hrb
      clear hrb
      by_cases hz : f6 = 0
      · have hzb : (f6 == 0) = true := by simp [hz]
        clear hz
        go_wp2_with fail
        go_ret
        exact ⟨rfl, HX3.out.bel⟩
      · have hzb : (f6 == 0) = false := by simp [hz]
        have hf6 : 0 < f6 := by omega
        clear hz
        obtain ⟨L, hp, hm, hn, C4⟩ := sort_ex l hl80 HSM.out
        obtain ⟨T, hT, hall, n, hnT, hsome, hslen, hiff⟩ := rows_all f0 f1 f2 f3 f4 f5 f6 hf6 L (by omega) hp
        have D4 := Lib.hid C4
        have HT := Lib.hid hT
        have HALL := Lib.hid hall
        have HSOME := Lib.hid hsome
        have HSLEN := Lib.hid hslen
        have HIFF := Lib.hid hiff
        clear C4 hT hall hsome hslen hiff hp hm
        go_wp2_with fail
        refine (D4.out _ A1 c1 (Kd.C_below HL.out HX3.out.bel) HC1.out).mono ?_
        rintro e w4 ⟨v5, rfl, hrow, hb4⟩
        have HX4 := Lib.hid (HX3.out.below hb4)
        clear hb4 HX3
        clear q0 q1 q2 q3 q4 q5 q6
        have q0 := HX4.out.q0
        have q1 := HX4.out.q1
        have q2 := HX4.out.q2
        have q3 := HX4.out.q3
        have q4 := HX4.out.q4
        have q5 := HX4.out.q5
        have q6 := HX4.out.q6
        obtain ⟨A5, c5, rfl, hc5, hC5⟩ := hrow
        have HC5 := Lib.hid (And.intro hc5 hC5)
        clear hc5 hC5
        go_wp2_with fail
        refine (c_clone w4 A c f0 f1 f2 f3 f4 f5 f6 (by have := HSF.out.1; omega) (Kd.C_below HF.out HX4.out.bel) HC.out).mono ?_
        rintro e w5 ⟨A6, c6, rfl, hc6, hC6, hb5⟩
        have HB5 := Lib.hid hb5
        have HX5 := Lib.hid (HX4.out.below hb5)
        have HC6 := Lib.hid (And.intro hc6 hC6)
        clear hb5 HX4 hc6 hC6
        clear q0 q1 q2 q3 q4 q5 q6
        have q0 := HX5.out.q0
        have q1 := HX5.out.q1
        have q2 := HX5.out.q2
        have q3 := HX5.out.q3
        have q4 := HX5.out.q4
        have q5 := HX5.out.q5
        have q6 := HX5.out.q6
        unfold fcells
        go_wp2_with fail
        have hb0 := (Below.refl w5.heap.size w5).alloc (Nat.le_refl _) (.cells #[.slice A6 f0.length c6, .string f1, .string f2, .int .i64 f3, .int .i64 f4, .int .i64 f5, .int .i64 0] 24)
        have hC5a := Kd.C_below (Kd.C_below HC5.out.2 HB5.out) hb0
        refine (c_apply _ A6 c6 f0 f1 f2 f3 f4 f5 0 L (by omega) (right_rows f0 f1 f2 f3 f4 f5 f6 HRB.out) A5 c5 (Kd.C_below HC6.out.2 hb0) HC6.out.1 hC5a HC5.out.1).mono ?_
        rintro e w7 ⟨v7, rfl, hrow7, hb7⟩
        have HX7 := Lib.hid ((HX5.out.below hb0).below hb7)
        have HC57 := Lib.hid (Kd.C_below hC5a hb7)
        clear hb7 HX5 hC5a hb0
        clear q0 q1 q2 q3 q4 q5 q6
        have q0 := HX7.out.q0
        have q1 := HX7.out.q1
        have q2 := HX7.out.q2
        have q3 := HX7.out.q3
        have q4 := HX7.out.q4
        have q5 := HX7.out.q5
        have q6 := HX7.out.q6
        rw [HALL.out] at hrow7
        obtain ⟨aL, haL⟩ : ∃ aL, aL = T.map Prod.fst := ⟨_, rfl⟩
        have hlen1 : aL.length ≤ T.length := by rw [haL, List.length_map]; exact Nat.le_refl _
        have hlen2 : T.length ≤ aL.length := by rw [haL, List.length_map]; exact Nat.le_refl _
        rw [← haL] at hrow7
        have HAL := Lib.hid haL
        clear haL
        obtain ⟨A7, c7, rfl, hc7, hC7⟩ := hrow7
        go_wp2_with fail
        refine (c_apply _ A c f0 f1 f2 f3 f4 f5 f6 L (by omega) HRB.out A5 c5 (Kd.C_below HF.out HX7.out.bel) HC.out HC57.out HC5.out.1).mono ?_
        rintro e w8 ⟨v8, rfl, hrow8, hb8⟩
        have HX8 := Lib.hid (HX7.out.below hb8)
        have hC78 := Kd.C_below hC7 hb8
        clear hb8 HX7 hC7
        clear q0 q1 q2 q3 q4 q5 q6
        have q0 := HX8.out.q0
        have q1 := HX8.out.q1
        have q2 := HX8.out.q2
        have q3 := HX8.out.q3
        have q4 := HX8.out.q4
        have q5 := HX8.out.q5
        have q6 := HX8.out.q6
        rw [HSOME.out, ← HAL.out] at hrow8
        obtain ⟨A8, c8, rfl, hc8, hC8⟩ := hrow8
        have hln : (aL.take n).length = n := by rw [List.length_take]; omega
        have hTL : T.length ≤ 80 := by
          have h1 := congrArg List.length HALL.out
          rw [List.length_map] at h1
          have h2 := svRun_length f0 f1 f2 f3 f4 f5 0 L sv0
          omega
        have CS := c_same w8 (aL.take n) (by omega) A8 A7 c8 c7 hC8 hc8 (Kd_C_take hC78 n (by omega)) (by omega)
        rw [hln] at CS hc8 ⊢
        obtain ⟨i0, hi0, hz0, hz1, hz2⟩ := info_parts info29
        have cut1 := cut_to (P := Try.prog) 25 29 .i64 Try.underlying25 hi0 A7 aL.length c7 (n : Int) (by omega) (by omega) (by omega)
        rw [Int.toNat_natCast] at cut1
        have HC78 := Lib.hid hC78
        clear hC78 hC8 hi0 hz0 hz1 hz2
        have hgt : decide (aL.length < n) = false := decide_eq_false (by omega)
        go_wp2_with (go_at_call 16; refine CS.mono ?_; rintro e w9 ⟨rfl, hb9⟩; have HX9 := Lib.hid (HX8.out.below hb9); have HC79 := Lib.hid (Kd.C_below HC78.out hb9); clear hb9 HX8 HC78)
        clear cut1 CS
        clear q0 q1 q2 q3 q4 q5 q6
        have q6 := HX9.out.q6
        go_loopg [9, 10] aL.length (fun gg v9 v10 W => ∃ i : Nat, i ≤ aL.length ∧ aL.length - i ≤ gg ∧ v10 = .int .i64 i ∧ (∃ x : Int, v9 = .int .i64 x ∧ Hid (x = rowsAt T i)) ∧ Drawn0 w9 W)
        case atStart => exact ⟨0, by omega, by omega, rfl, ⟨0, rfl, rfl⟩, Drawn0.refl _⟩
        case round =>
          obtain ⟨i, hi, hg, rfl, ⟨x, rfl, HXX⟩, ⟨q, rfl⟩⟩ := hrel
          by_cases hlt : i < aL.length
          · have hi0' : (0 : Int) ≤ (i : Int) := by omega
            have hi1' : (i : Int) < (aL.length : Int) := by omega
            have hnx := tagged_next HT.out i (by omega)
            have hif := HIFF.out i (by omega)
            have hrw := rows_bound HT.out i (by omega)
            rw [← HXX.out] at hrw hnx
            have hx80 : 0 ≤ x ∧ x ≤ 80 := by omega
            clear hrw
            by_cases h0 : i = 0
            · have hz0 : ((i : Int) == 0) = true := by simp [h0]
              have hn1 := hnx.1 h0
              clear hnx h0
              have hq : rowsAt T (i + 1) = x + 1 := hn1
              rw [hq] at hif; clear hn1
              by_cases hin : i < n
              · have hle := hif.1 hin
                have hd1 : decide (i < n) = true := decide_eq_true hin
                have hd2 : decide (x + 1 ≤ f6) = true := decide_eq_true hle
                have HQ := Lib.hid hq
                clear hif hq
                go_wp2_with fail
                go_quiet (fail)
                go_wp2_with fail
                go_roundg (aL.length - (i + 1))
                case measure => omega
                case rel => exact ⟨i + 1, by omega, by omega, by go_num, ⟨_, rfl, HQ.out.symm⟩, by first | exact Drawn0.step (Drawn0.refl _) _ | exact Drawn0.step (Drawn0.step (Drawn0.refl _) _) _⟩
              · have hle : ¬ x + 1 ≤ f6 := fun h => hin (hif.2 h)
                have hd1 : decide (i < n) = false := decide_eq_false hin
                have hd2 : decide (x + 1 ≤ f6) = false := decide_eq_false hle
                have HQ := Lib.hid hq
                clear hif hq
                go_wp2_with fail
                go_quiet (fail)
                go_wp2_with fail
                go_roundg (aL.length - (i + 1))
                case measure => omega
                case rel => exact ⟨i + 1, by omega, by omega, by go_num, ⟨_, rfl, HQ.out.symm⟩, by first | exact Drawn0.step (Drawn0.refl _) _ | exact Drawn0.step (Drawn0.step (Drawn0.refl _) _) _⟩
            · have hz0 : ((i : Int) == 0) = false := by simp [h0]
              obtain ⟨j, hj⟩ : ∃ j, i = j + 1 := ⟨i - 1, by omega⟩
              obtain ⟨ad, e, h1, _⟩ := at_T29 HC79.out (i : Int) hi0' hi1'
              obtain ⟨ad', e', h2, _⟩ := at_T29 HC79.out (j : Int) (by omega) (by omega)
              subst e
              obtain rfl : ad = ad' := by injection e'
              clear e'
              have hn2 := hnx.2 (by omega)
              rw [Int.toNat_natCast] at h1 h2
              have r1 : rd_T29 aL (i : Int) = (T.getD i (z29, 0)).1 := by
                rw [HAL.out]; unfold rd_T29
                rw [Int.toNat_natCast, List.getD_eq_getElem?_getD, List.getD_eq_getElem?_getD, List.getElem?_map, List.getElem?_eq_getElem (by omega)]; rfl
              have r2 : rd_T29 aL (j : Int) = (T.getD (i - 1) (z29, 0)).1 := by
                rw [HAL.out]; unfold rd_T29
                rw [Int.toNat_natCast, hj, Nat.add_sub_cancel, List.getD_eq_getElem?_getD, List.getD_eq_getElem?_getD, List.getElem?_map, List.getElem?_eq_getElem (by omega)]; rfl
              rw [← r1, ← r2] at hn2
              generalize rd_T29 aL (i : Int) = X1 at h1 hn2 r1
              generalize rd_T29 aL (j : Int) = X2 at h2 hn2 r2
              clear r1 r2 hnx
              have hw1 : IntKind.i64.wrap ((i : Int) - 1) = (j : Int) := by rw [IntWalk.i64_in _ (by omega)]; omega
              have hw0 : (i : Int) - 1 = (j : Int) := by omega
              have hj0 : (0 : Int) ≤ (j : Int) := by omega
              have hj1 : (j : Int) < (aL.length : Int) := by omega
              clear hj h0
              by_cases hs : X1.f0.toList = X2.f0.toList
              · have hsb : (X1.f0.toList == X2.f0.toList) = true := by simp [hs]
                have hn3 := hn2.1 hs
                clear hn2 hs
                have hq : rowsAt T (i + 1) = x := hn3
                rw [hq] at hif; clear hn3
                by_cases hin : i < n
                · have hle := hif.1 hin
                  have hd1 : decide (i < n) = true := decide_eq_true hin
                  have hd2 : decide (x ≤ f6) = true := decide_eq_true hle
                  have HQ := Lib.hid hq
                  clear hif hq
                  go_wp2_with fail
                  go_quiet (fail)
                  go_wp2_with fail
                  go_roundg (aL.length - (i + 1))
                  case measure => omega
                  case rel => exact ⟨i + 1, by omega, by omega, by go_num, ⟨_, rfl, HQ.out.symm⟩, by first | exact Drawn0.step (Drawn0.refl _) _ | exact Drawn0.step (Drawn0.step (Drawn0.refl _) _) _⟩
                · have hle : ¬ x ≤ f6 := fun h => hin (hif.2 h)
                  have hd1 : decide (i < n) = false := decide_eq_false hin
                  have hd2 : decide (x ≤ f6) = false := decide_eq_false hle
                  have HQ := Lib.hid hq
                  clear hif hq
                  go_wp2_with fail
                  go_quiet (fail)
                  go_wp2_with fail
                  go_roundg (aL.length - (i + 1))
                  case measure => omega
                  case rel => exact ⟨i + 1, by omega, by omega, by go_num, ⟨_, rfl, HQ.out.symm⟩, by first | exact Drawn0.step (Drawn0.refl _) _ | exact Drawn0.step (Drawn0.step (Drawn0.refl _) _) _⟩
              · have hsb : (X1.f0.toList == X2.f0.toList) = false := by simp [hs]
                have hn3 := hn2.2 hs
                clear hn2 hs
                have hq : rowsAt T (i + 1) = x + 1 := hn3
                rw [hq] at hif; clear hn3
                by_cases hin : i < n
                · have hle := hif.1 hin
                  have hd1 : decide (i < n) = true := decide_eq_true hin
                  have hd2 : decide (x + 1 ≤ f6) = true := decide_eq_true hle
                  have HQ := Lib.hid hq
                  clear hif hq
                  go_wp2_with fail
                  go_quiet (fail)
                  go_wp2_with fail
                  go_roundg (aL.length - (i + 1))
                  case measure => omega
                  case rel => exact ⟨i + 1, by omega, by omega, by go_num, ⟨_, rfl, HQ.out.symm⟩, by first | exact Drawn0.step (Drawn0.refl _) _ | exact Drawn0.step (Drawn0.step (Drawn0.refl _) _) _⟩
                · have hle : ¬ x + 1 ≤ f6 := fun h => hin (hif.2 h)
                  have hd1 : decide (i < n) = false := decide_eq_false hin
                  have hd2 : decide (x + 1 ≤ f6) = false := decide_eq_false hle
                  have HQ := Lib.hid hq
                  clear hif hq
                  go_wp2_with fail
                  go_quiet (fail)
                  go_wp2_with fail
                  go_roundg (aL.length - (i + 1))
                  case measure => omega
                  case rel => exact ⟨i + 1, by omega, by omega, by go_num, ⟨_, rfl, HQ.out.symm⟩, by first | exact Drawn0.step (Drawn0.refl _) _ | exact Drawn0.step (Drawn0.step (Drawn0.refl _) _) _⟩
          · have hi' : i = aL.length := by omega
            subst hi'
            go_wp2_with fail
            go_ret
            exact ⟨rfl, (HX9.out.bel.trans (pw_below_drewN (Below.refl _ _) _))⟩
end Go.Proofs.Ythbgjaboghnpjaa.R
