/- Floating numbers: the statements' walks: FloatReads. -/
import Derived.Test.YtljhjhfnoalhkaaDoorFL
namespace Go.Proofs.YtljhjhfnoalhkaaDoor.Fl
open Go.RowKit Go.Maps
set_option linter.unusedVariables false
set_option linter.unusedSimpArgs false
set_option maxHeartbeats 4000000 in
set_option maxRecDepth 100000 in
theorem floatReads (w : World) (A : Option Addr) (c : Nat) (l : List Int) (s : ByteArray) (hv : HasB w (.slice A l.length c) l) (hb : Byts l) (hl : l.length ≤ 9223372036854775807) (hs : s.size ≤ 140737488351232) (hg : Gl w) : Calls Tryd.prog 7 #[.slice A l.length c, .string s] w fun e w' => e = .returned (.bool true) ∧ Below w.heap.size w w' := by
  have C0 := Lib.hid (c_alive w hg)
  have HG := Lib.hid hg
  have HV := Lib.hid hv
  have HBY := Lib.hid hb
  clear hg hv hb
  by_cases h1 : l.length ≤ 100
  · have t1 : decide (100 < (l.length : Int)) = false := decide_eq_false (by omega)
    by_cases h2 : s.size ≤ 100
    · have t2 : decide (100 < (s.size : Int)) = false := decide_eq_false (by omega)
      obtain ⟨n, b, hf⟩ : ∃ n b, fromF l = (n, b) := ⟨_, _, rfl⟩
      obtain ⟨m, d, hr⟩ := rd_ex s
      have C1 := Lib.hid (fun W (hv : HasB W (.slice A l.length c) l) => c_from W _ l hv HBY.out (by omega) n b hf)
      have C2 := Lib.hid (fun W (hv : HasB W (.slice A l.length c) l) => c_rfrom W _ l hv HBY.out (by omega) n b hf)
      have C3 := Lib.hid (fun W hg => c_read s hs W hg m d hr)
      have C4 := Lib.hid (fun W => c_rread s hs W m d hr)
      clear hf hr
      go_enter Tryd.func7, Tryd.ntmps7
      go_wp2_with fail
      refine C0.out.mono ?_
      rintro e w1 ⟨rfl, hb⟩
      have HB1 := Lib.hid hb
      have HV1 := Lib.hid (HV.out.below hb)
      clear hb
      go_wp2_with fail
      refine (C1.out w1 HV1.out).mono ?_
      rintro e w2 ⟨rfl, hb⟩
      have HB2 := Lib.hid (HB1.out.trans (hb.mono HB1.out.size))
      have HV2 := Lib.hid (HV1.out.below hb)
      clear hb
      go_wp2_with fail
      refine (C2.out w2 HV2.out).mono ?_
      rintro e w3 ⟨rfl, hb⟩
      have HB3 := Lib.hid (HB2.out.trans (hb.mono HB2.out.size))
      clear hb
      go_wp2_with fail
      refine (C3.out w3 (HG.out.below HB3.out)).mono ?_
      rintro e w4 ⟨rfl, hb⟩
      have HB4 := Lib.hid (HB3.out.trans (hb.mono HB3.out.size))
      clear hb
      go_wp2_with fail
      refine (C4.out w4).mono ?_
      rintro e w5 ⟨rfl, hb⟩
      have HB5 := Lib.hid (HB4.out.trans (hb.mono HB4.out.size))
      clear hb
      go_wp2_with fail
      go_ret
      exact ⟨rfl, HB5.out⟩
    · have t2 : decide (100 < (s.size : Int)) = true := decide_eq_true (by omega)
      clear h1 h2
      go_enter Tryd.func7, Tryd.ntmps7
      go_wp2_with fail
      refine C0.out.mono ?_
      rintro e w1 ⟨rfl, hb⟩
      have HB1 := Lib.hid hb
      clear hb
      go_wp2_with fail
      go_ret
      exact ⟨rfl, HB1.out⟩
  · have t1 : decide (100 < (l.length : Int)) = true := decide_eq_true (by omega)
    clear h1
    go_enter Tryd.func7, Tryd.ntmps7
    go_wp2_with fail
    refine C0.out.mono ?_
    rintro e w1 ⟨rfl, hb⟩
    have HB1 := Lib.hid hb
    clear hb
    go_wp2_with fail
    go_ret
    exact ⟨rfl, HB1.out⟩
end Go.Proofs.YtljhjhfnoalhkaaDoor.Fl
