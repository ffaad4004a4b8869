/- Floating numbers: alive. -/
import Derived.Test.YtljhjhfnoalhkaaDoorFH
namespace Go.Proofs.YtljhjhfnoalhkaaDoor.Fl
open Go.RowKit Go.Maps
set_option linter.unusedVariables false
set_option linter.unusedSimpArgs false
theorem one_text : showS 4607182418800017408 = ⟨#[120, 51, 102, 102, 48, 48, 48, 48, 48, 48, 48, 48, 48, 48, 48, 48, 48]⟩ := by decide
theorem one_rd : RdIs ⟨#[120, 51, 102, 102, 48, 48, 48, 48, 48, 48, 48, 48, 48, 48, 48, 48, 48]⟩ 4607182418800017408 true := Or.inl ⟨rfl, by unfold Wf; decide, by decide, one_text⟩
theorem one_eq : (FloatKind.f64.format.order 4607182418800017408 4607182418800017408 == some .eq) = true := by decide +kernel
theorem one_ne : (FloatKind.f64.format.order 4607182418800017408 4607182418800017408 != some .eq) = false := by decide +kernel
set_option maxHeartbeats 4000000 in
set_option maxRecDepth 100000 in
theorem c_alive (w : World) (hg : Gl w) : Calls Tryd.prog 9 #[] w fun e w' => e = .returned (.bool true) ∧ Below w.heap.size w w' := by
  have HG := Lib.hid hg
  have he := one_eq
  clear hg
  go_enter Tryd.func9, Tryd.ntmps9
  go_wp2_with fail
  refine (c_read _ (by decide) w HG.out _ _ one_rd).mono ?_
  rintro e w1 ⟨rfl, hb⟩
  have HB := Lib.hid hb
  have HG1 := Lib.hid (HG.out.below hb)
  clear hb HG
  go_wp2_with fail
  refine (c_show 4607182418800017408 (by decide) _ one_text w1 HG1.out).mono ?_
  rintro e w2 ⟨rfl, hb⟩
  have HB2 := Lib.hid (HB.out.trans (hb.mono HB.out.size))
  clear hb HB HG1
  go_wp2_with fail
  refine (c_of 4607182418800017408 false one_ne 4607182418800017408 (by rw [if_neg (by decide)]; unfold wrap64; decide) w2).mono ?_
  rintro e w' ⟨rfl, rfl⟩
  go_wp2_with fail
  refine (c_to 4607182418800017408 4607182418800017408 (by decide) w2).mono ?_
  rintro e w' ⟨rfl, rfl⟩
  go_wp2_with fail
  refine (c_order (-9223372036854775808) 0 w2).mono ?_
  rintro e w' ⟨rfl, rfl⟩
  rw [show sgn (rankU (U (-9223372036854775808))) (rankU (U 0)) = -1 by decide]
  go_wp2_with fail
  refine (c_bytes 0 w2).mono ?_
  rintro e w3 ⟨v, rfl, hv, hb⟩
  have HB3 := Lib.hid (HB2.out.trans (hb.mono HB2.out.size))
  have HV := Lib.hid hv
  clear hb hv HB2
  go_wp2_with fail
  have hn : HasB (w3.alloc (.cells #[.int .u8 128, .int .u8 0, .int .u8 0, .int .u8 0, .int .u8 0, .int .u8 0, .int .u8 0, .int .u8 0] 5)) (.slice (some ⟨w3.heap.size, 0, none⟩) 8 8) [128, 0, 0, 0, 0, 0, 0, 0] := HasB.block (l := [128, 0, 0, 0, 0, 0, 0, 0]) (heap_alloc_new _ _) (Nat.le_refl _)
  have hbn := (Below.refl w3.heap.size w3).alloc (Nat.le_refl _) (.cells #[.int .u8 128, .int .u8 0, .int .u8 0, .int .u8 0, .int .u8 0, .int .u8 0, .int .u8 0, .int .u8 0] 5)
  have HV2 := Lib.hid (HV.out.below hbn)
  have HN := Lib.hid hn
  have HB4 := Lib.hid (HB3.out.trans (hbn.mono HB3.out.size))
  clear hn hbn HV HB3
  refine (c_same _ _ _ _ _ HV2.out HN.out (by decide) true (by decide)).mono ?_
  rintro e w5 ⟨rfl, hb⟩
  have HB5 := Lib.hid (HB4.out.trans (hb.mono HB4.out.size))
  clear hb HB4 HV2 HN
  go_wp2_with fail
  refine (c_right 9221120237041090560 true (by decide) w5).mono ?_
  rintro e w' ⟨rfl, rfl⟩
  go_wp2_with fail
  refine (c_right (-1) false (by decide) w5).mono ?_
  rintro e w' ⟨rfl, rfl⟩
  go_wp2_with fail
  go_ret
  exact ⟨rfl, HB5.out⟩
end Go.Proofs.YtljhjhfnoalhkaaDoor.Fl
