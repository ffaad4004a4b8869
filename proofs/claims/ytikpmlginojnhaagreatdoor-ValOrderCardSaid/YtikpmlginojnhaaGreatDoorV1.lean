/- UTF-8: the document's loop. -/
import Derived.Test.YtikpmlginojnhaaGreatDoorV0
import Derived.Lib.ValidLaws
namespace Go.Proofs.YtikpmlginojnhaaGreatDoor.Fl
open Go.RowKit Go.Maps Go.Lib
set_option linter.unusedVariables false
set_option linter.unusedSimpArgs false
theorem vd_bad (l : List UInt8) (hne : l ≠ []) (h : (128 ≤ (l.getD 0 0).toNat ∧ (l.getD 0 0).toNat < 194) ∨ 245 ≤ (l.getD 0 0).toNat) : validD l = false := by
  rw [validD_lead l hne (by omega)]
  generalize (l.getD 0 0).toNat = b0 at *
  have : firstT b0 = 241 := by unfold firstT; repeat' split
                               all_goals first | rfl | omega
  rw [this]
  rfl
theorem vd2 (l : List UInt8) (hne : l ≠ []) (h0 : 194 ≤ (l.getD 0 0).toNat) (h1 : (l.getD 0 0).toNat ≤ 223) : validD l = (decide (2 ≤ l.length ∧ 128 ≤ (l.getD 1 0).toNat ∧ (l.getD 1 0).toNat ≤ 191) && validD (l.drop 2)) := by
  rw [validD_lead l hne (by omega)]
  generalize (l.getD 0 0).toNat = b0 at *
  generalize (l.getD 1 0).toNat = b1 at *
  have : firstT b0 = 2 := by unfold firstT; repeat' split
                             all_goals first | rfl | omega
  rw [this]
  unfold checkN accLo accHi
  simp only [show 2 % 8 = 2 by decide, show 2 / 16 = 0 by decide, if_true]
  by_cases h : l.length < 2 ∨ b1 < 128 ∨ 191 < b1
  · rw [if_pos h, decide_eq_false (by omega), Bool.false_and]
  · rw [if_neg h, decide_eq_true (by omega), Bool.true_and]
theorem vd3 (l : List UInt8) (hne : l ≠ []) (h0 : 224 ≤ (l.getD 0 0).toNat) (h1 : (l.getD 0 0).toNat ≤ 239) :
    validD l = (decide (3 ≤ l.length ∧ 128 ≤ (l.getD 1 0).toNat ∧ (l.getD 1 0).toNat ≤ 191 ∧ 128 ≤ (l.getD 2 0).toNat ∧ (l.getD 2 0).toNat ≤ 191 ∧ ((l.getD 0 0).toNat = 224 → 160 ≤ (l.getD 1 0).toNat) ∧ ((l.getD 0 0).toNat = 237 → (l.getD 1 0).toNat ≤ 159)) && validD (l.drop 3)) := by
  rw [validD_lead l hne (by omega)]
  generalize (l.getD 0 0).toNat = b0 at *
  generalize (l.getD 1 0).toNat = b1 at *
  generalize (l.getD 2 0).toNat = b2 at *
  have key : firstT b0 % 8 = 3 ∧ ((b0 = 224 ∧ firstT b0 / 16 = 1) ∨ (b0 = 237 ∧ firstT b0 / 16 = 2) ∨ (b0 ≠ 224 ∧ b0 ≠ 237 ∧ firstT b0 / 16 = 0)) := by
    unfold firstT
    repeat' split
    all_goals omega
  obtain ⟨k1, k2⟩ := key
  rw [k1]
  unfold checkN
  rw [if_neg (by decide), if_pos rfl]
  rcases k2 with ⟨k, k2⟩ | ⟨k, k2⟩ | ⟨k, k', k2⟩ <;> rw [k2] <;> simp only [show accLo 0 = 128 from rfl, show accHi 0 = 191 from rfl, show accLo 1 = 160 from rfl, show accHi 1 = 191 from rfl, show accLo 2 = 128 from rfl, show accHi 2 = 159 from rfl, show accLo 3 = 144 from rfl, show accHi 3 = 191 from rfl, show accLo 4 = 128 from rfl, show accHi 4 = 143 from rfl]
  · by_cases h : l.length < 3 ∨ b1 < 160 ∨ 191 < b1 ∨ b2 < 128 ∨ 191 < b2
    · rw [if_pos h, decide_eq_false (by omega), Bool.false_and]
    · rw [if_neg h, decide_eq_true (by omega), Bool.true_and]
  · by_cases h : l.length < 3 ∨ b1 < 128 ∨ 159 < b1 ∨ b2 < 128 ∨ 191 < b2
    · rw [if_pos h, decide_eq_false (by omega), Bool.false_and]
    · rw [if_neg h, decide_eq_true (by omega), Bool.true_and]
  · by_cases h : l.length < 3 ∨ b1 < 128 ∨ 191 < b1 ∨ b2 < 128 ∨ 191 < b2
    · rw [if_pos h, decide_eq_false (by omega), Bool.false_and]
    · rw [if_neg h, decide_eq_true (by omega), Bool.true_and]
theorem vd4 (l : List UInt8) (hne : l ≠ []) (h0 : 240 ≤ (l.getD 0 0).toNat) (h1 : (l.getD 0 0).toNat ≤ 244) :
    validD l = (decide (4 ≤ l.length ∧ 128 ≤ (l.getD 1 0).toNat ∧ (l.getD 1 0).toNat ≤ 191 ∧ 128 ≤ (l.getD 2 0).toNat ∧ (l.getD 2 0).toNat ≤ 191 ∧ 128 ≤ (l.getD 3 0).toNat ∧ (l.getD 3 0).toNat ≤ 191 ∧ ((l.getD 0 0).toNat = 240 → 144 ≤ (l.getD 1 0).toNat) ∧ ((l.getD 0 0).toNat = 244 → (l.getD 1 0).toNat ≤ 143)) && validD (l.drop 4)) := by
  rw [validD_lead l hne (by omega)]
  generalize (l.getD 0 0).toNat = b0 at *
  generalize (l.getD 1 0).toNat = b1 at *
  generalize (l.getD 2 0).toNat = b2 at *
  generalize (l.getD 3 0).toNat = b3 at *
  have key : firstT b0 % 8 = 4 ∧ ((b0 = 240 ∧ firstT b0 / 16 = 3) ∨ (b0 = 244 ∧ firstT b0 / 16 = 4) ∨ (b0 ≠ 240 ∧ b0 ≠ 244 ∧ firstT b0 / 16 = 0)) := by
    unfold firstT
    repeat' split
    all_goals omega
  obtain ⟨k1, k2⟩ := key
  rw [k1]
  unfold checkN
  rw [if_neg (by decide), if_neg (by decide), if_pos rfl]
  rcases k2 with ⟨k, k2⟩ | ⟨k, k2⟩ | ⟨k, k', k2⟩ <;> rw [k2] <;> simp only [show accLo 0 = 128 from rfl, show accHi 0 = 191 from rfl, show accLo 1 = 160 from rfl, show accHi 1 = 191 from rfl, show accLo 2 = 128 from rfl, show accHi 2 = 159 from rfl, show accLo 3 = 144 from rfl, show accHi 3 = 191 from rfl, show accLo 4 = 128 from rfl, show accHi 4 = 143 from rfl]
  · by_cases h : l.length < 4 ∨ b1 < 144 ∨ 191 < b1 ∨ b2 < 128 ∨ 191 < b2 ∨ b3 < 128 ∨ 191 < b3
    · rw [if_pos h, decide_eq_false (by omega), Bool.false_and]
    · rw [if_neg h, decide_eq_true (by omega), Bool.true_and]
  · by_cases h : l.length < 4 ∨ b1 < 128 ∨ 143 < b1 ∨ b2 < 128 ∨ 191 < b2 ∨ b3 < 128 ∨ 191 < b3
    · rw [if_pos h, decide_eq_false (by omega), Bool.false_and]
    · rw [if_neg h, decide_eq_true (by omega), Bool.true_and]
  · by_cases h : l.length < 4 ∨ b1 < 128 ∨ 191 < b1 ∨ b2 < 128 ∨ 191 < b2 ∨ b3 < 128 ∨ 191 < b3
    · rw [if_pos h, decide_eq_false (by omega), Bool.false_and]
    · rw [if_neg h, decide_eq_true (by omega), Bool.true_and]
/-- Is what follows place i right? -/
def vd (s : ByteArray) (i : Nat) : Bool := validD (s.data.toList.drop i)
theorem drop_at (s : ByteArray) (i j : Nat) : (((s.data.toList.drop i).getD j 0).toNat : Int) = (byt s).getD (i + j) 0 := by
  unfold byt
  simp only [List.getD_eq_getElem?_getD, List.getElem?_drop, List.getElem?_map]
  cases s.data.toList[i + j]? <;> rfl
theorem vd_facts (s : ByteArray) (i : Nat) (hi : i < s.size) : s.data.toList.drop i ≠ [] ∧ (s.data.toList.drop i).length = s.size - i ∧ ∀ n, (s.data.toList.drop i).drop n = s.data.toList.drop (i + n) := by
  have hl : s.data.toList.length = s.size := by rw [Array.length_toList]; rfl
  refine ⟨fun h => ?_, by rw [List.length_drop, hl], fun n => by rw [List.drop_drop]⟩
  have := congrArg List.length h
  rw [List.length_drop, hl] at this
  simp at this
  omega
theorem vd_asc (s : ByteArray) (i : Nat) (hi : i < s.size) (h : (byt s).getD i 0 < 128) : vd s i = vd s (i + 1) := by
  obtain ⟨h1, h2, h3⟩ := vd_facts s i hi
  have h4 := drop_at s i 0
  unfold vd
  rw [← h3 1]
  cases hl : s.data.toList.drop i with
  | nil => exact absurd hl h1
  | cons b t =>
    rw [hl, Nat.add_zero] at h4
    have h5 : ((b.toNat : Nat) : Int) = (byt s).getD i 0 := h4
    rw [validD_cons b t (by omega)]
    rfl
theorem vd_end (s : ByteArray) : vd s s.size = true := by
  unfold vd
  rw [List.drop_eq_nil_of_le (by rw [Array.length_toList]; exact Nat.le_refl _)]
  rfl
theorem u_bad (s : ByteArray) (i : Nat) (hi : i < s.size) (b0 : Int) (e0 : (byt s).getD i 0 = b0) (h : (128 ≤ b0 ∧ b0 < 194) ∨ 245 ≤ b0) : vd s i = false := by
  obtain ⟨h1, h2, h3⟩ := vd_facts s i hi
  have h4 := drop_at s i 0
  rw [Nat.add_zero, e0] at h4
  exact vd_bad _ h1 (by omega)
theorem u_at2 (s : ByteArray) (i : Nat) (hi : i < s.size) (b0 b1 : Int) (e0 : (byt s).getD i 0 = b0) (e1 : (byt s).getD (i + 1) 0 = b1) (h : 194 ≤ b0 ∧ b0 ≤ 223) : vd s i = (decide (i + 1 < s.size ∧ 128 ≤ b1 ∧ b1 ≤ 191) && vd s (i + 2)) := by
  obtain ⟨h1, h2, h3⟩ := vd_facts s i hi
  have h4 := drop_at s i 0
  have h5 := drop_at s i 1
  rw [Nat.add_zero, e0] at h4
  rw [e1] at h5
  unfold vd
  rw [vd2 _ h1 (by omega) (by omega), h3, h2]
  congr 1
  exact decide_eq_decide.2 (by omega)
theorem u_at3 (s : ByteArray) (i : Nat) (hi : i < s.size) (b0 b1 b2 : Int) (e0 : (byt s).getD i 0 = b0) (e1 : (byt s).getD (i + 1) 0 = b1) (e2 : (byt s).getD (i + 2) 0 = b2) (h : 224 ≤ b0 ∧ b0 ≤ 239) :
    vd s i = (decide (i + 2 < s.size ∧ 128 ≤ b1 ∧ b1 ≤ 191 ∧ 128 ≤ b2 ∧ b2 ≤ 191 ∧ 2048 ≤ ((b0 - 224) * 64 + b1 - 128) * 64 + b2 - 128 ∧ ¬ (55296 ≤ ((b0 - 224) * 64 + b1 - 128) * 64 + b2 - 128 ∧ ((b0 - 224) * 64 + b1 - 128) * 64 + b2 - 128 ≤ 57343)) && vd s (i + 3)) := by
  obtain ⟨h1, h2, h3⟩ := vd_facts s i hi
  have h4 := drop_at s i 0
  have h5 := drop_at s i 1
  have h6 := drop_at s i 2
  rw [Nat.add_zero, e0] at h4
  rw [e1] at h5
  rw [e2] at h6
  unfold vd
  rw [vd3 _ h1 (by omega) (by omega), h3, h2]
  congr 1
  exact decide_eq_decide.2 (by omega)
theorem u_at4 (s : ByteArray) (i : Nat) (hi : i < s.size) (b0 b1 b2 b3 : Int) (e0 : (byt s).getD i 0 = b0) (e1 : (byt s).getD (i + 1) 0 = b1) (e2 : (byt s).getD (i + 2) 0 = b2) (e3 : (byt s).getD (i + 3) 0 = b3) (h : 240 ≤ b0 ∧ b0 ≤ 244) :
    vd s i = (decide (i + 3 < s.size ∧ 128 ≤ b1 ∧ b1 ≤ 191 ∧ 128 ≤ b2 ∧ b2 ≤ 191 ∧ 128 ≤ b3 ∧ b3 ≤ 191 ∧ 65536 ≤ (((b0 - 240) * 64 + b1 - 128) * 64 + b2 - 128) * 64 + b3 - 128 ∧ (((b0 - 240) * 64 + b1 - 128) * 64 + b2 - 128) * 64 + b3 - 128 ≤ 1114111) && vd s (i + 4)) := by
  obtain ⟨h1, h2, h3⟩ := vd_facts s i hi
  have h4 := drop_at s i 0
  have h5 := drop_at s i 1
  have h6 := drop_at s i 2
  have h7 := drop_at s i 3
  rw [Nat.add_zero, e0] at h4
  rw [e1] at h5
  rw [e2] at h6
  rw [e3] at h7
  unfold vd
  rw [vd4 _ h1 (by omega) (by omega), h3, h2]
  congr 1
  exact decide_eq_decide.2 (by omega)
set_option maxHeartbeats 4000000 in
set_option maxRecDepth 100000 in
theorem c_rutf8 (s : ByteArray) (hs : s.size ≤ 140737488351232) (b : Bool) (hb : Lib.validD s.data.toList = b) (w : World) :
    Calls Tryz.prog 31 #[.string s] w fun e w' => e = .returned (.bool b) ∧ Below w.heap.size w w' := by
  have HB := Lib.hid hb
  clear hb
  go_enter Tryz.func31, Tryz.ntmps31
  go_wp2
  go_loopw [3] (fun v3 W => ∃ i : Nat, i ≤ s.size ∧ v3 = .int .i64 i ∧ Hid (vd s i = b) ∧ Hid (Below w.heap.size w W)) (fun v3 _ => s.size - (RowKit.intOf v3).toNat)
  case atStart => exact ⟨0, by omega, rfl, Lib.hid HB.out, Lib.hid (Below.refl _ _)⟩
  case round =>
    obtain ⟨i, hi, rfl, HV, HW⟩ := hrel
    by_cases hlt : i < s.size
    · have t1 : decide ((i : Int) < (s.size : Int)) = true := decide_eq_true (by omega)
      have x0 := str_at s i hlt
      obtain ⟨b0, e0⟩ : ∃ b0, (byt s).getD i 0 = b0 := ⟨_, rfl⟩
      have hb0 := byts_at (byt_bd s) i (by rw [byt_len]; exact hlt)
      rw [e0] at x0 hb0
      have E0 := Lib.hid e0
      by_cases c1 : b0 < 128
      · have HV2 := Lib.hid (vd_asc s i hlt (by rw [e0]; exact c1))
        clear e0
        go_wp2
        go_roundw
        case rel => exact ⟨i + 1, by omega, by go_num, Lib.hid (by rw [← HV2.out]; exact HV.out), HW⟩
        case measure => simp [RowKit.intOf]; omega
      · by_cases cb : (128 ≤ b0 ∧ b0 < 194) ∨ 245 ≤ b0
        · have hb : b = false := by rw [← HV.out]; exact u_bad s i hlt b0 e0 cb
          subst hb
          have t2 : decide (b0 < 128) = false := decide_eq_false c1
          rcases cb with cb | cb
          · have t3 : decide (194 ≤ b0) = false := decide_eq_false (by omega)
            have t4 : decide (224 ≤ b0) = false := decide_eq_false (by omega)
            have t5 : decide (240 ≤ b0) = false := decide_eq_false (by omega)
            clear cb e0 c1
            go_wp2
            go_ret
            exact ⟨rfl, HW.out⟩
          · have t3 : decide (194 ≤ b0) = true := decide_eq_true (by omega)
            have t4 : decide (224 ≤ b0) = true := decide_eq_true (by omega)
            have t5 : decide (240 ≤ b0) = true := decide_eq_true (by omega)
            have t6 : decide (b0 ≤ 223) = false := decide_eq_false (by omega)
            have t7 : decide (b0 ≤ 239) = false := decide_eq_false (by omega)
            have t8 : decide (b0 ≤ 244) = false := decide_eq_false (by omega)
            clear cb e0 c1
            go_wp2
            go_ret
            exact ⟨rfl, HW.out⟩
        · by_cases k1 : b0 ≤ 223
          · have t2 : decide (b0 < 128) = false := decide_eq_false c1
            have t3 : decide (194 ≤ b0) = true := decide_eq_true (by omega)
            have t4 : decide (b0 ≤ 223) = true := decide_eq_true (by omega)
            have hx : 194 ≤ b0 ∧ b0 ≤ 223 := by omega
            obtain ⟨b1, e1⟩ : ∃ b1, (byt s).getD (i + 1) 0 = b1 := ⟨_, rfl⟩
            have HU := Lib.hid (u_at2 s i hlt b0 b1 e0 e1 hx)
            by_cases hf : i + 1 < s.size
            · have t9 : decide ((s.size : Int) ≤ (i : Int) + 1) = false := decide_eq_false (by omega)
              have x1 := str_at s (i + 1) (by omega)
              have hb1 := byts_at (byt_bd s) (i + 1) (by rw [byt_len]; omega)
              rw [e1] at x1 hb1
              have hp1 : ((i + 1 : Nat) : Int) = (i : Int) + 1 := by omega
              rw [hp1] at x1
              clear hp1
              clear e0 e1 c1 k1
              go_wp2_with fail
              go_loopw [4, 7] (fun v4 v7 W => ((v7 = .int .i64 1 ∧ v4 = .int .i64 (b0 - 192)) ∨ (v7 = .int .i64 2 ∧ v4 = .int .i64 ((b0 - 192) * 64 + b1 - 128) ∧ Hid (128 ≤ b1 ∧ b1 ≤ 191))) ∧ Hid (Below w.heap.size w W)) (fun _ v7 _ => (2 - RowKit.intOf v7).toNat)
              case atStart => exact ⟨Or.inl ⟨by go_num, by go_num⟩, HW⟩
              case round =>
                obtain ⟨hrel, HW⟩ := hrel
                rcases hrel with ⟨rfl, rfl⟩ | ⟨rfl, rfl, HQ1⟩
                · by_cases q1 : b1 < 128
                  · have tq : decide (b1 < 128) = true := decide_eq_true q1
                    have hb : b = false := by rw [← HV.out, HU.out, decide_eq_false (by omega), Bool.false_and]
                    subst hb
                    go_wp2
                    go_ret
                    exact ⟨rfl, HW.out⟩
                  · have tq : decide (b1 < 128) = false := decide_eq_false q1
                    by_cases q2 : 191 < b1
                    · have tr : decide (191 < b1) = true := decide_eq_true q2
                      have hb : b = false := by rw [← HV.out, HU.out, decide_eq_false (by omega), Bool.false_and]
                      subst hb
                      go_wp2
                      go_ret
                      exact ⟨rfl, HW.out⟩
                    · have tr : decide (191 < b1) = false := decide_eq_false q2
                      have HQ1 := Lib.hid (show 128 ≤ b1 ∧ b1 ≤ 191 by omega)
                      go_wp2
                      go_roundw
                      case rel => exact ⟨Or.inr (⟨by go_num, by go_num, HQ1⟩), HW⟩
                      case measure => simp [RowKit.intOf]
                · have q1 := HQ1.out
                  have z1 : decide (((b0 - 192) * 64 + b1 - 128) < 128) = false := decide_eq_false (by omega)
                  have z2 : decide (1114111 < ((b0 - 192) * 64 + b1 - 128)) = false := decide_eq_false (by omega)
                  have z3 : decide (55296 ≤ ((b0 - 192) * 64 + b1 - 128)) = false := decide_eq_false (by omega)
                  have HV2 := Lib.hid (show vd s (i + 2) = b by rw [← HV.out, HU.out, decide_eq_true (by have := And.intro HQ1.out HQ1.out; omega), Bool.true_and])
                  clear HV
                  go_wp2
                  go_roundw
                  case rel => exact ⟨i + 2, by omega, by go_num, HV2, HW⟩
                  case measure => simp [RowKit.intOf]; omega
            · have t9 : decide ((s.size : Int) ≤ (i : Int) + 1) = true := decide_eq_true (by omega)
              have hb : b = false := by rw [← HV.out, HU.out, decide_eq_false (by omega), Bool.false_and]
              subst hb
              clear e0 e1 c1 k1
              go_wp2
              go_ret
              exact ⟨rfl, HW.out⟩
          · by_cases k2 : b0 ≤ 239
            · have t2 : decide (b0 < 128) = false := decide_eq_false c1
              have t3 : decide (194 ≤ b0) = true := decide_eq_true (by omega)
              have t4 : decide (b0 ≤ 223) = false := decide_eq_false (by omega)
              have t5 : decide (224 ≤ b0) = true := decide_eq_true (by omega)
              have t6 : decide (b0 ≤ 239) = true := decide_eq_true (by omega)
              have hx : 224 ≤ b0 ∧ b0 ≤ 239 := by omega
              obtain ⟨b1, e1⟩ : ∃ b1, (byt s).getD (i + 1) 0 = b1 := ⟨_, rfl⟩
              obtain ⟨b2, e2⟩ : ∃ b2, (byt s).getD (i + 2) 0 = b2 := ⟨_, rfl⟩
              have HU := Lib.hid (u_at3 s i hlt b0 b1 b2 e0 e1 e2 hx)
              by_cases hf : i + 2 < s.size
              · have t9 : decide ((s.size : Int) ≤ (i : Int) + 2) = false := decide_eq_false (by omega)
                have x1 := str_at s (i + 1) (by omega)
                have hb1 := byts_at (byt_bd s) (i + 1) (by rw [byt_len]; omega)
                rw [e1] at x1 hb1
                have hp1 : ((i + 1 : Nat) : Int) = (i : Int) + 1 := by omega
                rw [hp1] at x1
                clear hp1
                have x2 := str_at s (i + 2) (by omega)
                have hb2 := byts_at (byt_bd s) (i + 2) (by rw [byt_len]; omega)
                rw [e2] at x2 hb2
                have hp2 : ((i + 2 : Nat) : Int) = (i : Int) + 2 := by omega
                rw [hp2] at x2
                clear hp2
                clear e0 e1 e2 c1 k1 k2
                go_wp2_with fail
                go_loopw [4, 7] (fun v4 v7 W => ((v7 = .int .i64 1 ∧ v4 = .int .i64 (b0 - 224)) ∨ (v7 = .int .i64 2 ∧ v4 = .int .i64 ((b0 - 224) * 64 + b1 - 128) ∧ Hid (128 ≤ b1 ∧ b1 ≤ 191)) ∨ (v7 = .int .i64 3 ∧ v4 = .int .i64 (((b0 - 224) * 64 + b1 - 128) * 64 + b2 - 128) ∧ Hid (128 ≤ b1 ∧ b1 ≤ 191) ∧ Hid (128 ≤ b2 ∧ b2 ≤ 191))) ∧ Hid (Below w.heap.size w W)) (fun _ v7 _ => (3 - RowKit.intOf v7).toNat)
                case atStart => exact ⟨Or.inl ⟨by go_num, by go_num⟩, HW⟩
                case round =>
                  obtain ⟨hrel, HW⟩ := hrel
                  rcases hrel with ⟨rfl, rfl⟩ | ⟨rfl, rfl, HQ1⟩ | ⟨rfl, rfl, HQ1, HQ2⟩
                  · by_cases q1 : b1 < 128
                    · have tq : decide (b1 < 128) = true := decide_eq_true q1
                      have hb : b = false := by rw [← HV.out, HU.out, decide_eq_false (by omega), Bool.false_and]
                      subst hb
                      go_wp2
                      go_ret
                      exact ⟨rfl, HW.out⟩
                    · have tq : decide (b1 < 128) = false := decide_eq_false q1
                      by_cases q2 : 191 < b1
                      · have tr : decide (191 < b1) = true := decide_eq_true q2
                        have hb : b = false := by rw [← HV.out, HU.out, decide_eq_false (by omega), Bool.false_and]
                        subst hb
                        go_wp2
                        go_ret
                        exact ⟨rfl, HW.out⟩
                      · have tr : decide (191 < b1) = false := decide_eq_false q2
                        have HQ1 := Lib.hid (show 128 ≤ b1 ∧ b1 ≤ 191 by omega)
                        go_wp2
                        go_roundw
                        case rel => exact ⟨Or.inr (Or.inl (⟨by go_num, by go_num, HQ1⟩)), HW⟩
                        case measure => simp [RowKit.intOf]
                  · by_cases q1 : b2 < 128
                    · have tq : decide (b2 < 128) = true := decide_eq_true q1
                      have hb : b = false := by rw [← HV.out, HU.out, decide_eq_false (by omega), Bool.false_and]
                      subst hb
                      go_wp2
                      go_ret
                      exact ⟨rfl, HW.out⟩
                    · have tq : decide (b2 < 128) = false := decide_eq_false q1
                      by_cases q2 : 191 < b2
                      · have tr : decide (191 < b2) = true := decide_eq_true q2
                        have hb : b = false := by rw [← HV.out, HU.out, decide_eq_false (by omega), Bool.false_and]
                        subst hb
                        go_wp2
                        go_ret
                        exact ⟨rfl, HW.out⟩
                      · have tr : decide (191 < b2) = false := decide_eq_false q2
                        have HQ2 := Lib.hid (show 128 ≤ b2 ∧ b2 ≤ 191 by omega)
                        go_wp2
                        go_roundw
                        case rel => exact ⟨Or.inr (Or.inr (⟨by go_num, by go_num, HQ1, HQ2⟩)), HW⟩
                        case measure => simp [RowKit.intOf]
                  · have q1 := HQ1.out
                    have q2 := HQ2.out
                    have z2 : decide (1114111 < (((b0 - 224) * 64 + b1 - 128) * 64 + b2 - 128)) = false := decide_eq_false (by omega)
                    by_cases z1 : (((b0 - 224) * 64 + b1 - 128) * 64 + b2 - 128) < 2048
                    · have z3 : decide ((((b0 - 224) * 64 + b1 - 128) * 64 + b2 - 128) < 2048) = true := decide_eq_true z1
                      have hb : b = false := by rw [← HV.out, HU.out, decide_eq_false (by omega), Bool.false_and]
                      subst hb
                      go_wp2
                      go_ret
                      exact ⟨rfl, HW.out⟩
                    · have z3 : decide ((((b0 - 224) * 64 + b1 - 128) * 64 + b2 - 128) < 2048) = false := decide_eq_false z1
                      by_cases z4 : 55296 ≤ (((b0 - 224) * 64 + b1 - 128) * 64 + b2 - 128)
                      · have z5 : decide (55296 ≤ (((b0 - 224) * 64 + b1 - 128) * 64 + b2 - 128)) = true := decide_eq_true z4
                        by_cases z6 : (((b0 - 224) * 64 + b1 - 128) * 64 + b2 - 128) ≤ 57343
                        · have z7 : decide ((((b0 - 224) * 64 + b1 - 128) * 64 + b2 - 128) ≤ 57343) = true := decide_eq_true z6
                          have hb : b = false := by rw [← HV.out, HU.out, decide_eq_false (by omega), Bool.false_and]
                          subst hb
                          go_wp2
                          go_ret
                          exact ⟨rfl, HW.out⟩
                        · have z7 : decide ((((b0 - 224) * 64 + b1 - 128) * 64 + b2 - 128) ≤ 57343) = false := decide_eq_false z6
                          have HV2 := Lib.hid (show vd s (i + 3) = b by rw [← HV.out, HU.out, decide_eq_true (by have := (⟨HQ1.out, HQ2.out⟩ : (128 ≤ b1 ∧ b1 ≤ 191) ∧ (128 ≤ b2 ∧ b2 ≤ 191)); omega), Bool.true_and])
                          clear HV
                          go_wp2
                          go_roundw
                          case rel => exact ⟨i + 3, by omega, by go_num, HV2, HW⟩
                          case measure => simp [RowKit.intOf]; omega
                      · have z5 : decide (55296 ≤ (((b0 - 224) * 64 + b1 - 128) * 64 + b2 - 128)) = false := decide_eq_false z4
                        have HV2 := Lib.hid (show vd s (i + 3) = b by rw [← HV.out, HU.out, decide_eq_true (by have := (⟨HQ1.out, HQ2.out⟩ : (128 ≤ b1 ∧ b1 ≤ 191) ∧ (128 ≤ b2 ∧ b2 ≤ 191)); omega), Bool.true_and])
                        clear HV
                        go_wp2
                        go_roundw
                        case rel => exact ⟨i + 3, by omega, by go_num, HV2, HW⟩
                        case measure => simp [RowKit.intOf]; omega
              · have t9 : decide ((s.size : Int) ≤ (i : Int) + 2) = true := decide_eq_true (by omega)
                have hb : b = false := by rw [← HV.out, HU.out, decide_eq_false (by omega), Bool.false_and]
                subst hb
                clear e0 e1 e2 c1 k1 k2
                go_wp2
                go_ret
                exact ⟨rfl, HW.out⟩
            · have t2 : decide (b0 < 128) = false := decide_eq_false c1
              have t3 : decide (194 ≤ b0) = true := decide_eq_true (by omega)
              have t4 : decide (b0 ≤ 223) = false := decide_eq_false (by omega)
              have t5 : decide (224 ≤ b0) = true := decide_eq_true (by omega)
              have t6 : decide (b0 ≤ 239) = false := decide_eq_false (by omega)
              have t7 : decide (240 ≤ b0) = true := decide_eq_true (by omega)
              have t8 : decide (b0 ≤ 244) = true := decide_eq_true (by omega)
              have hx : 240 ≤ b0 ∧ b0 ≤ 244 := by omega
              obtain ⟨b1, e1⟩ : ∃ b1, (byt s).getD (i + 1) 0 = b1 := ⟨_, rfl⟩
              obtain ⟨b2, e2⟩ : ∃ b2, (byt s).getD (i + 2) 0 = b2 := ⟨_, rfl⟩
              obtain ⟨b3, e3⟩ : ∃ b3, (byt s).getD (i + 3) 0 = b3 := ⟨_, rfl⟩
              have HU := Lib.hid (u_at4 s i hlt b0 b1 b2 b3 e0 e1 e2 e3 hx)
              by_cases hf : i + 3 < s.size
              · have t9 : decide ((s.size : Int) ≤ (i : Int) + 3) = false := decide_eq_false (by omega)
                have x1 := str_at s (i + 1) (by omega)
                have hb1 := byts_at (byt_bd s) (i + 1) (by rw [byt_len]; omega)
                rw [e1] at x1 hb1
                have hp1 : ((i + 1 : Nat) : Int) = (i : Int) + 1 := by omega
                rw [hp1] at x1
                clear hp1
                have x2 := str_at s (i + 2) (by omega)
                have hb2 := byts_at (byt_bd s) (i + 2) (by rw [byt_len]; omega)
                rw [e2] at x2 hb2
                have hp2 : ((i + 2 : Nat) : Int) = (i : Int) + 2 := by omega
                rw [hp2] at x2
                clear hp2
                have x3 := str_at s (i + 3) (by omega)
                have hb3 := byts_at (byt_bd s) (i + 3) (by rw [byt_len]; omega)
                rw [e3] at x3 hb3
                have hp3 : ((i + 3 : Nat) : Int) = (i : Int) + 3 := by omega
                rw [hp3] at x3
                clear hp3
                clear e0 e1 e2 e3 c1 k1 k2
                go_wp2_with fail
                go_loopw [4, 7] (fun v4 v7 W => ((v7 = .int .i64 1 ∧ v4 = .int .i64 (b0 - 240)) ∨ (v7 = .int .i64 2 ∧ v4 = .int .i64 ((b0 - 240) * 64 + b1 - 128) ∧ Hid (128 ≤ b1 ∧ b1 ≤ 191)) ∨ (v7 = .int .i64 3 ∧ v4 = .int .i64 (((b0 - 240) * 64 + b1 - 128) * 64 + b2 - 128) ∧ Hid (128 ≤ b1 ∧ b1 ≤ 191) ∧ Hid (128 ≤ b2 ∧ b2 ≤ 191)) ∨ (v7 = .int .i64 4 ∧ v4 = .int .i64 ((((b0 - 240) * 64 + b1 - 128) * 64 + b2 - 128) * 64 + b3 - 128) ∧ Hid (128 ≤ b1 ∧ b1 ≤ 191) ∧ Hid (128 ≤ b2 ∧ b2 ≤ 191) ∧ Hid (128 ≤ b3 ∧ b3 ≤ 191))) ∧ Hid (Below w.heap.size w W)) (fun _ v7 _ => (4 - RowKit.intOf v7).toNat)
                case atStart => exact ⟨Or.inl ⟨by go_num, by go_num⟩, HW⟩
                case round =>
                  obtain ⟨hrel, HW⟩ := hrel
                  rcases hrel with ⟨rfl, rfl⟩ | ⟨rfl, rfl, HQ1⟩ | ⟨rfl, rfl, HQ1, HQ2⟩ | ⟨rfl, rfl, HQ1, HQ2, HQ3⟩
                  · by_cases q1 : b1 < 128
                    · have tq : decide (b1 < 128) = true := decide_eq_true q1
                      have hb : b = false := by rw [← HV.out, HU.out, decide_eq_false (by omega), Bool.false_and]
                      subst hb
                      go_wp2
                      go_ret
                      exact ⟨rfl, HW.out⟩
                    · have tq : decide (b1 < 128) = false := decide_eq_false q1
                      by_cases q2 : 191 < b1
                      · have tr : decide (191 < b1) = true := decide_eq_true q2
                        have hb : b = false := by rw [← HV.out, HU.out, decide_eq_false (by omega), Bool.false_and]
                        subst hb
                        go_wp2
                        go_ret
                        exact ⟨rfl, HW.out⟩
                      · have tr : decide (191 < b1) = false := decide_eq_false q2
                        have HQ1 := Lib.hid (show 128 ≤ b1 ∧ b1 ≤ 191 by omega)
                        go_wp2
                        go_roundw
                        case rel => exact ⟨Or.inr (Or.inl (⟨by go_num, by go_num, HQ1⟩)), HW⟩
                        case measure => simp [RowKit.intOf]
                  · by_cases q1 : b2 < 128
                    · have tq : decide (b2 < 128) = true := decide_eq_true q1
                      have hb : b = false := by rw [← HV.out, HU.out, decide_eq_false (by omega), Bool.false_and]
                      subst hb
                      go_wp2
                      go_ret
                      exact ⟨rfl, HW.out⟩
                    · have tq : decide (b2 < 128) = false := decide_eq_false q1
                      by_cases q2 : 191 < b2
                      · have tr : decide (191 < b2) = true := decide_eq_true q2
                        have hb : b = false := by rw [← HV.out, HU.out, decide_eq_false (by omega), Bool.false_and]
                        subst hb
                        go_wp2
                        go_ret
                        exact ⟨rfl, HW.out⟩
                      · have tr : decide (191 < b2) = false := decide_eq_false q2
                        have HQ2 := Lib.hid (show 128 ≤ b2 ∧ b2 ≤ 191 by omega)
                        go_wp2
                        go_roundw
                        case rel => exact ⟨Or.inr (Or.inr (Or.inl (⟨by go_num, by go_num, HQ1, HQ2⟩))), HW⟩
                        case measure => simp [RowKit.intOf]
                  · by_cases q1 : b3 < 128
                    · have tq : decide (b3 < 128) = true := decide_eq_true q1
                      have hb : b = false := by rw [← HV.out, HU.out, decide_eq_false (by omega), Bool.false_and]
                      subst hb
                      go_wp2
                      go_ret
                      exact ⟨rfl, HW.out⟩
                    · have tq : decide (b3 < 128) = false := decide_eq_false q1
                      by_cases q2 : 191 < b3
                      · have tr : decide (191 < b3) = true := decide_eq_true q2
                        have hb : b = false := by rw [← HV.out, HU.out, decide_eq_false (by omega), Bool.false_and]
                        subst hb
                        go_wp2
                        go_ret
                        exact ⟨rfl, HW.out⟩
                      · have tr : decide (191 < b3) = false := decide_eq_false q2
                        have HQ3 := Lib.hid (show 128 ≤ b3 ∧ b3 ≤ 191 by omega)
                        go_wp2
                        go_roundw
                        case rel => exact ⟨Or.inr (Or.inr (Or.inr (⟨by go_num, by go_num, HQ1, HQ2, HQ3⟩))), HW⟩
                        case measure => simp [RowKit.intOf]
                  · have q1 := HQ1.out
                    have q2 := HQ2.out
                    have q3 := HQ3.out
                    by_cases z1 : ((((b0 - 240) * 64 + b1 - 128) * 64 + b2 - 128) * 64 + b3 - 128) < 65536
                    · have z3 : decide (((((b0 - 240) * 64 + b1 - 128) * 64 + b2 - 128) * 64 + b3 - 128) < 65536) = true := decide_eq_true z1
                      have hb : b = false := by rw [← HV.out, HU.out, decide_eq_false (by omega), Bool.false_and]
                      subst hb
                      go_wp2
                      go_ret
                      exact ⟨rfl, HW.out⟩
                    · have z3 : decide (((((b0 - 240) * 64 + b1 - 128) * 64 + b2 - 128) * 64 + b3 - 128) < 65536) = false := decide_eq_false z1
                      by_cases z4 : 1114111 < ((((b0 - 240) * 64 + b1 - 128) * 64 + b2 - 128) * 64 + b3 - 128)
                      · have z5 : decide (1114111 < ((((b0 - 240) * 64 + b1 - 128) * 64 + b2 - 128) * 64 + b3 - 128)) = true := decide_eq_true z4
                        have hb : b = false := by rw [← HV.out, HU.out, decide_eq_false (by omega), Bool.false_and]
                        subst hb
                        go_wp2
                        go_ret
                        exact ⟨rfl, HW.out⟩
                      · have z5 : decide (1114111 < ((((b0 - 240) * 64 + b1 - 128) * 64 + b2 - 128) * 64 + b3 - 128)) = false := decide_eq_false z4
                        have z6 : decide (55296 ≤ ((((b0 - 240) * 64 + b1 - 128) * 64 + b2 - 128) * 64 + b3 - 128)) = true := decide_eq_true (by omega)
                        have z7 : decide (((((b0 - 240) * 64 + b1 - 128) * 64 + b2 - 128) * 64 + b3 - 128) ≤ 57343) = false := decide_eq_false (by omega)
                        have HV2 := Lib.hid (show vd s (i + 4) = b by rw [← HV.out, HU.out, decide_eq_true (by have := (⟨HQ1.out, HQ2.out, HQ3.out⟩ : (128 ≤ b1 ∧ b1 ≤ 191) ∧ (128 ≤ b2 ∧ b2 ≤ 191) ∧ (128 ≤ b3 ∧ b3 ≤ 191)); omega), Bool.true_and])
                        clear HV
                        go_wp2
                        go_roundw
                        case rel => exact ⟨i + 4, by omega, by go_num, HV2, HW⟩
                        case measure => simp [RowKit.intOf]; omega
              · have t9 : decide ((s.size : Int) ≤ (i : Int) + 3) = true := decide_eq_true (by omega)
                have hb : b = false := by rw [← HV.out, HU.out, decide_eq_false (by omega), Bool.false_and]
                subst hb
                clear e0 e1 e2 e3 c1 k1 k2
                go_wp2
                go_ret
                exact ⟨rfl, HW.out⟩
    · have t1 : decide ((i : Int) < (s.size : Int)) = false := decide_eq_false (by omega)
      have hi2 : i = s.size := by omega
      have hb : b = true := by rw [← HV.out, hi2]; exact vd_end s
      subst hb
      clear hi2
      go_wp2
      go_ret
      exact ⟨rfl, HW.out⟩
end Go.Proofs.YtikpmlginojnhaaGreatDoor.Fl
