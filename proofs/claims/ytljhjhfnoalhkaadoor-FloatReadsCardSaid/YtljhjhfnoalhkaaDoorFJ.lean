/- Floating numbers: the statements' walks. -/
import Derived.Test.YtljhjhfnoalhkaaDoorFI
namespace Go.Proofs.YtljhjhfnoalhkaaDoor.Fl
open Go.RowKit Go.Maps
set_option linter.unusedVariables false
set_option linter.unusedSimpArgs false
set_option maxHeartbeats 4000000 in
set_option maxRecDepth 100000 in
theorem floatAsks (w : World) (a b : Int) (ha : Wf a) (hb : Wf b) (hg : Gl w) : Calls Tryd.prog 3 #[.int .i64 a, .int .i64 b] w fun e w' => e = .returned (.bool true) ∧ Below w.heap.size w w' := by
  have HG := Lib.hid hg
  have HA := Lib.hid ha
  have HB := Lib.hid hb
  clear hg ha hb
  go_enter Tryd.func3, Tryd.ntmps3
  go_wp2_with fail
  refine (c_alive w HG.out).mono ?_
  rintro e w1 ⟨rfl, hb⟩
  have H1 := Lib.hid hb
  have HG1 := Lib.hid (HG.out.below hb)
  clear hb HG
  obtain ⟨r, hr⟩ : ∃ r, rightU (U a) = r := ⟨_, rfl⟩
  have C1 := Lib.hid (c_right a r hr w1)
  have C2 := Lib.hid (c_rright a HA.out r hr w1)
  have C3 := Lib.hid (c_order a b w1)
  have C4 := Lib.hid (c_rorder a b HA.out HB.out w1)
  generalize sgn (rankU (U a)) (rankU (U b)) = q at C3 C4
  clear hr
  go_wp2_with fail
  refine C1.out.mono ?_
  rintro e w' ⟨rfl, rfl⟩
  go_wp2_with fail
  refine C2.out.mono ?_
  rintro e w' ⟨rfl, rfl⟩
  clear C1 C2
  go_wp2_with fail
  refine C3.out.mono ?_
  rintro e w' ⟨rfl, rfl⟩
  go_wp2_with fail
  refine C4.out.mono ?_
  rintro e w' ⟨rfl, rfl⟩
  clear C3 C4
  go_wp2_with fail
  refine (c_bytes a w1).mono ?_
  rintro e w2 ⟨v, rfl, hv, hb⟩
  have H2 := Lib.hid (H1.out.trans (hb.mono H1.out.size))
  have HG2 := Lib.hid (HG1.out.below hb)
  have HV := Lib.hid hv
  clear hb hv H1 HG1
  go_wp2_with fail
  refine (c_rbytes a HA.out w2).mono ?_
  rintro e w3 ⟨v2, rfl, hv, hb⟩
  have H3 := Lib.hid (H2.out.trans (hb.mono H2.out.size))
  have HG3 := Lib.hid (HG2.out.below hb)
  have HV2 := Lib.hid (HV.out.below hb)
  have HV3 := Lib.hid hv
  clear hb hv H2 HG2 HV
  go_wp2_with fail
  refine (c_same w3 v v2 _ _ HV2.out HV3.out (by unfold bytesF; split <;> simp [b8]) true (by simp)).mono ?_
  rintro e w4 ⟨rfl, hb⟩
  have H4 := Lib.hid (H3.out.trans (hb.mono H3.out.size))
  have HG4 := Lib.hid (HG3.out.below hb)
  clear hb H3 HG3 HV2 HV3
  obtain ⟨t, ht⟩ : ∃ t, showS a = t := ⟨_, rfl⟩
  have C5 := Lib.hid (c_show a HA.out t ht w4 HG4.out)
  have C6 := Lib.hid (fun W => c_rshow a HA.out t ht W)
  clear ht
  go_wp2_with fail
  refine C5.out.mono ?_
  rintro e w5 ⟨rfl, hb⟩
  have H5 := Lib.hid (H4.out.trans (hb.mono H4.out.size))
  clear hb H4 C5
  go_wp2_with fail
  refine (C6.out w5).mono ?_
  rintro e w6 ⟨rfl, hb⟩
  have H6 := Lib.hid (H5.out.trans (hb.mono H5.out.size))
  clear hb H5 C6
  go_wp2_with fail
  go_ret
  exact ⟨rfl, H6.out⟩
set_option maxHeartbeats 4000000 in
set_option maxRecDepth 100000 in
theorem floatBits (w : World) (n : Int) (hn : Wf n) (hg : Gl w) : Calls Tryd.prog 4 #[.int .i64 n] w fun e w' => e = .returned (.bool true) ∧ Below w.heap.size w w' := by
  have C0 := Lib.hid (c_alive w hg)
  obtain ⟨b, hb⟩ : ∃ b, (U n).toNat = b := ⟨_, rfl⟩
  have C1 := Lib.hid (c_to n b hb)
  have hnan := nan_iff n b hb
  have hnn := U_nan n hn
  have hw : wrap64 (b : Int) = n := by
    have h := U_bd n
    unfold Wf at hn
    unfold U at hb h
    unfold wrap64
    omega
  by_cases h : U n % 9223372036854775808 ≤ 9218868437227405312
  · rw [decide_eq_true h] at hnan
    have C2 := Lib.hid (c_of b false hnan n (by rw [if_neg (by decide), hw]))
    have C3 := Lib.hid (c_right n true (by unfold rightU; rw [decide_eq_true h]; rfl))
    have hx : (FloatKind.f64.format.order b b != some .eq) = false := hnan
    clear hb hnan hnn hw h hg hn
    go_enter Tryd.func4, Tryd.ntmps4
    go_wp2_with fail
    refine C0.out.mono ?_
    rintro e w1 ⟨rfl, hb⟩
    have HB := Lib.hid hb
    clear hb
    go_wp2_with (first | (go_at_call 19; ((with_reducible refine (C1.out _).mono ?_); rintro e w' ⟨rfl, rfl⟩)) | (go_at_call 20; ((with_reducible refine (C2.out _).mono ?_); rintro e w' ⟨rfl, rfl⟩)) | (go_at_call 10; ((with_reducible refine (C3.out _).mono ?_); rintro e w' ⟨rfl, rfl⟩)))
    go_ret
    exact ⟨rfl, HB.out⟩
  · rw [decide_eq_false h] at hnan
    have C2 := Lib.hid (c_of b true hnan 9221120237041090560 (by rw [if_pos rfl]))
    obtain ⟨r, hr⟩ : ∃ r, (n == 9221120237041090560) = r := ⟨_, rfl⟩
    have C3 := Lib.hid (c_right n r (by unfold rightU; rw [decide_eq_false h, hnn, hr]; rfl))
    have C4 := Lib.hid (c_right 9221120237041090560 true (by decide))
    have hx : (FloatKind.f64.format.order b b != some .eq) = true := hnan
    clear hb hnan hnn hw h hg hn
    go_enter Tryd.func4, Tryd.ntmps4
    go_wp2_with fail
    refine C0.out.mono ?_
    rintro e w1 ⟨rfl, hb⟩
    have HB := Lib.hid hb
    clear hb
    go_wp2_with (first | (go_at_call 19; ((with_reducible refine (C1.out _).mono ?_); rintro e w' ⟨rfl, rfl⟩)) | (go_at_call 20; ((with_reducible refine (C2.out _).mono ?_); rintro e w' ⟨rfl, rfl⟩)) | (go_at_call 10; ((with_reducible refine (C3.out _).mono ?_); rintro e w' ⟨rfl, rfl⟩)) | (go_at_call 10; ((with_reducible refine (C4.out _).mono ?_); rintro e w' ⟨rfl, rfl⟩)))
    go_ret
    exact ⟨rfl, HB.out⟩
end Go.Proofs.YtljhjhfnoalhkaaDoor.Fl
