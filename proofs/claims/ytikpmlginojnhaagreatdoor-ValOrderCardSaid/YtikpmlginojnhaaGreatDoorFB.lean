/- Floating numbers as text: the document's Show. -/
import Derived.Test.YtikpmlginojnhaaGreatDoorFA
namespace Go.Proofs.YtikpmlginojnhaaGreatDoor.Fl
open Go.RowKit Go.Maps
set_option linter.unusedVariables false
set_option linter.unusedSimpArgs false
theorem dig_cut (d : Int) (h0 : 0 ≤ d) (h1 : d < 16) (w : World) : (Instr.slice 9 (.string ⟨#[48, 49, 50, 51, 52, 53, 54, 55, 56, 57, 97, 98, 99, 100, 101, 102]⟩) (some (.int .u64 d)) (some (.int .u64 (d + 1))) none).run Tryz.prog w = .ok (.string (txt [hx d])) w := by
  obtain rfl | rfl | rfl | rfl | rfl | rfl | rfl | rfl | rfl | rfl | rfl | rfl | rfl | rfl | rfl | rfl : d = 0 ∨ d = 1 ∨ d = 2 ∨ d = 3 ∨ d = 4 ∨ d = 5 ∨ d = 6 ∨ d = 7 ∨ d = 8 ∨ d = 9 ∨ d = 10 ∨ d = 11 ∨ d = 12 ∨ d = 13 ∨ d = 14 ∨ d = 15 := by omega
  all_goals kernel_rfl
theorem txt_append (a b : List Int) : txt a ++ txt b = txt (a ++ b) := by
  apply ByteArray.ext
  apply Array.toList_inj.1
  simp [ByteArray.data_append, txt]
theorem hexI_take : ∀ (m k : Nat) (u : Int), (hexI (k + m) u).take k = hexI k (u / 16 ^ m)
  | 0, k, u => by simp; rw [List.take_of_length_le (by rw [hexI_len]; exact Nat.le_refl _)]
  | m + 1, k, u => by
    rw [← Nat.add_assoc, hexI, List.take_append_of_le_length (by rw [hexI_len]; omega), hexI_take m k (u / 16), Int.ediv_ediv_of_nonneg (by decide), Int.pow_succ, Int.mul_comm]
theorem hexI_grow (u : Int) (k m : Nat) (h : k + 1 + m = 16) : txt (120 :: (hexI 16 u).take k) ++ txt [hx (u / 16 ^ m % 16)] = txt (120 :: (hexI 16 u).take (k + 1)) := by
  rw [txt_append, ← h, hexI_take m (k + 1) u, Nat.add_assoc, hexI_take (1 + m) k u, hexI]
  rw [show u / 16 ^ (1 + m) = u / 16 ^ m / 16 by rw [Int.ediv_ediv_of_nonneg (Int.pow_nonneg (by decide)), Nat.add_comm, Int.pow_succ]]
  rfl
set_option maxHeartbeats 4000000 in
set_option maxRecDepth 100000 in
theorem c_rshow (n : Int) (hn : -9223372036854775808 ≤ n ∧ n ≤ 9223372036854775807) (s : ByteArray) (hs : showS n = s) (w : World) :
    Calls Tryz.prog 45 #[.int .i64 n] w fun e w' => e = .returned (.string s) ∧ Below w.heap.size w w' := by
  have hu : IntKind.u64.wrap n = U n := wrap_U n
  have C1 := Lib.hid (c_rright n hn _ rfl)
  have HUB := Lib.hid (U_bd n)
  unfold showS at hs
  by_cases n0 : n = 9221120237041090560
  · have hrt : rightU (U n) = true := by rw [n0]; decide
    rw [if_neg (by rw [hrt]; decide), if_pos n0] at hs
    subst hs
    have b0 : (n == 9221120237041090560) = true := by simp [n0]
    clear n0 hrt hu hn C1 HUB
    go_enter Tryz.func45, Tryz.ntmps45
    go_wp2
    go_ret
    exact ⟨rfl, Below.refl _ _⟩
  by_cases n1 : n = 9218868437227405312
  · have hrt : rightU (U n) = true := by rw [n1]; decide
    rw [if_neg (by rw [hrt]; decide), if_neg n0, if_pos n1] at hs
    subst hs
    have b0 : (n == 9221120237041090560) = false := by simp [n1]
    have b1 : (n == 9218868437227405312) = true := by simp [n1]
    clear n0 n1 hrt hu hn C1 HUB
    go_enter Tryz.func45, Tryz.ntmps45
    go_wp2
    go_ret
    exact ⟨rfl, Below.refl _ _⟩
  by_cases n2 : n = -4503599627370496
  · have hrt : rightU (U n) = true := by rw [n2]; decide
    rw [if_neg (by rw [hrt]; decide), if_neg n0, if_neg n1, if_pos n2] at hs
    subst hs
    have b0 : (n == 9221120237041090560) = false := by simp [n2]
    have b1 : (n == 9218868437227405312) = false := by simp [n2]
    have b2 : (n == -4503599627370496) = true := by simp [n2]
    clear n0 n1 n2 hrt hu hn C1 HUB
    go_enter Tryz.func45, Tryz.ntmps45
    go_wp2
    go_ret
    exact ⟨rfl, Below.refl _ _⟩
  by_cases n3 : n = 0
  · have hrt : rightU (U n) = true := by rw [n3]; decide
    rw [if_neg (by rw [hrt]; decide), if_neg n0, if_neg n1, if_neg n2, if_pos n3] at hs
    subst hs
    have b0 : (n == 9221120237041090560) = false := by simp [n3]
    have b1 : (n == 9218868437227405312) = false := by simp [n3]
    have b2 : (n == -4503599627370496) = false := by simp [n3]
    have b3 : (n == 0) = true := by simp [n3]
    clear n0 n1 n2 n3 hrt hu hn C1 HUB
    go_enter Tryz.func45, Tryz.ntmps45
    go_wp2
    go_ret
    exact ⟨rfl, Below.refl _ _⟩
  by_cases n4 : n = -9223372036854775808
  · have hrt : rightU (U n) = true := by rw [n4]; decide
    rw [if_neg (by rw [hrt]; decide), if_neg n0, if_neg n1, if_neg n2, if_neg n3, if_pos n4] at hs
    subst hs
    have b0 : (n == 9221120237041090560) = false := by simp [n4]
    have b1 : (n == 9218868437227405312) = false := by simp [n4]
    have b2 : (n == -4503599627370496) = false := by simp [n4]
    have b3 : (n == 0) = false := by simp [n4]
    have b4 : (n == -9223372036854775808) = true := by simp [n4]
    clear n0 n1 n2 n3 n4 hrt hu hn C1 HUB
    go_enter Tryz.func45, Tryz.ntmps45
    go_wp2
    go_ret
    exact ⟨rfl, Below.refl _ _⟩
  have b0 : (n == 9221120237041090560) = false := by simp [n0]
  have b1 : (n == 9218868437227405312) = false := by simp [n1]
  have b2 : (n == -4503599627370496) = false := by simp [n2]
  have b3 : (n == 0) = false := by simp [n3]
  have b4 : (n == -9223372036854775808) = false := by simp [n4]
  cases hr : rightU (U n) with
  | false =>
    rw [if_pos hr] at hs
    subst hs
    rw [hr] at C1
    clear n0 n1 n2 n3 n4 hr hu HUB hn
    go_enter Tryz.func45, Tryz.ntmps45
    go_wp2_with (go_at_call 32; refine (C1.out _).mono ?_; rintro e w' ⟨rfl, rfl⟩)
    go_ret
    exact ⟨rfl, Below.refl _ _⟩
  | true =>
    rw [if_neg (by rw [hr]; decide), if_neg n0, if_neg n1, if_neg n2, if_neg n3, if_neg n4] at hs
    subst hs
    rw [hr] at C1
    clear n0 n1 n2 n3 n4 hr hn
    generalize U n = u at *
    go_enter Tryz.func45, Tryz.ntmps45
    go_wp2_with (go_at_call 32; refine (C1.out _).mono ?_; rintro e w' ⟨rfl, rfl⟩)
    clear b0 b1 b2 b3 b4
    go_loopw [3, 4, 5] (fun v3 v4 v5 W => ∃ (k : Nat) (t : ByteArray), k ≤ 16 ∧ v3 = .string t ∧ v4 = .int .i64 (15 - (k : Int)) ∧ Hid (t = txt (120 :: (hexI 16 u).take k)) ∧ Hid (Below w.heap.size w W)) (fun _ v4 _ _ => (intOf v4 + 1).toNat)
    case atStart => exact ⟨0, _, by omega, rfl, by go_num, Lib.hid rfl, Below.refl _ _⟩
    case round =>
      obtain ⟨k, t, hk, rfl, rfl, HT, HW⟩ := hrel
      obtain rfl | rfl | rfl | rfl | rfl | rfl | rfl | rfl | rfl | rfl | rfl | rfl | rfl | rfl | rfl | rfl | rfl : k = 0 ∨ k = 1 ∨ k = 2 ∨ k = 3 ∨ k = 4 ∨ k = 5 ∨ k = 6 ∨ k = 7 ∨ k = 8 ∨ k = 9 ∨ k = 10 ∨ k = 11 ∨ k = 12 ∨ k = 13 ∨ k = 14 ∨ k = 15 ∨ k = 16 := by omega
      · have hd0 : (0 : Int) ≤ (u / 1152921504606846976) := by have := HUB.out; omega
        have hd1 : Int.tmod (u / 1152921504606846976) 16 = (u / 1152921504606846976) % 16 := Int.tmod_eq_emod_of_nonneg hd0
        obtain ⟨d, hd⟩ : ∃ d, (u / 1152921504606846976) % 16 = d := ⟨_, rfl⟩
        rw [hd] at hd1
        have hd2 : 0 ≤ d := by omega
        have hd3 : d < 16 := by omega
        have hcut := dig_cut d hd2 hd3
        have hd4 : IntKind.u64.wrap (d + 1) = d + 1 := wraps_u64 _ (by omega) (by omega)
        have hl : ¬ 9223372036854775807 < t.size + (txt [hx d]).size := by rw [HT.out, txt_size, txt_size]; simp [hexI_len]
        have HG := Lib.hid (show t ++ txt [hx d] = txt (120 :: (hexI 16 u).take 1) by rw [HT.out, ← hd]; have := hexI_grow u 0 15 (by decide); simpa using this)
        clear hd hd0
        go_wp2
        go_roundw
        case rel => exact ⟨1, t ++ txt [hx d], by omega, rfl, by go_num, HG, HW⟩
        case measure => simp [intOf]
      · have hd0 : (0 : Int) ≤ (u / 72057594037927936) := by have := HUB.out; omega
        have hd1 : Int.tmod (u / 72057594037927936) 16 = (u / 72057594037927936) % 16 := Int.tmod_eq_emod_of_nonneg hd0
        obtain ⟨d, hd⟩ : ∃ d, (u / 72057594037927936) % 16 = d := ⟨_, rfl⟩
        rw [hd] at hd1
        have hd2 : 0 ≤ d := by omega
        have hd3 : d < 16 := by omega
        have hcut := dig_cut d hd2 hd3
        have hd4 : IntKind.u64.wrap (d + 1) = d + 1 := wraps_u64 _ (by omega) (by omega)
        have hl : ¬ 9223372036854775807 < t.size + (txt [hx d]).size := by rw [HT.out, txt_size, txt_size]; simp [hexI_len]
        have HG := Lib.hid (show t ++ txt [hx d] = txt (120 :: (hexI 16 u).take 2) by rw [HT.out, ← hd]; have := hexI_grow u 1 14 (by decide); simpa using this)
        clear hd hd0
        go_wp2
        go_roundw
        case rel => exact ⟨2, t ++ txt [hx d], by omega, rfl, by go_num, HG, HW⟩
        case measure => simp [intOf]
      · have hd0 : (0 : Int) ≤ (u / 4503599627370496) := by have := HUB.out; omega
        have hd1 : Int.tmod (u / 4503599627370496) 16 = (u / 4503599627370496) % 16 := Int.tmod_eq_emod_of_nonneg hd0
        obtain ⟨d, hd⟩ : ∃ d, (u / 4503599627370496) % 16 = d := ⟨_, rfl⟩
        rw [hd] at hd1
        have hd2 : 0 ≤ d := by omega
        have hd3 : d < 16 := by omega
        have hcut := dig_cut d hd2 hd3
        have hd4 : IntKind.u64.wrap (d + 1) = d + 1 := wraps_u64 _ (by omega) (by omega)
        have hl : ¬ 9223372036854775807 < t.size + (txt [hx d]).size := by rw [HT.out, txt_size, txt_size]; simp [hexI_len]
        have HG := Lib.hid (show t ++ txt [hx d] = txt (120 :: (hexI 16 u).take 3) by rw [HT.out, ← hd]; have := hexI_grow u 2 13 (by decide); simpa using this)
        clear hd hd0
        go_wp2
        go_roundw
        case rel => exact ⟨3, t ++ txt [hx d], by omega, rfl, by go_num, HG, HW⟩
        case measure => simp [intOf]
      · have hd0 : (0 : Int) ≤ (u / 281474976710656) := by have := HUB.out; omega
        have hd1 : Int.tmod (u / 281474976710656) 16 = (u / 281474976710656) % 16 := Int.tmod_eq_emod_of_nonneg hd0
        obtain ⟨d, hd⟩ : ∃ d, (u / 281474976710656) % 16 = d := ⟨_, rfl⟩
        rw [hd] at hd1
        have hd2 : 0 ≤ d := by omega
        have hd3 : d < 16 := by omega
        have hcut := dig_cut d hd2 hd3
        have hd4 : IntKind.u64.wrap (d + 1) = d + 1 := wraps_u64 _ (by omega) (by omega)
        have hl : ¬ 9223372036854775807 < t.size + (txt [hx d]).size := by rw [HT.out, txt_size, txt_size]; simp [hexI_len]
        have HG := Lib.hid (show t ++ txt [hx d] = txt (120 :: (hexI 16 u).take 4) by rw [HT.out, ← hd]; have := hexI_grow u 3 12 (by decide); simpa using this)
        clear hd hd0
        go_wp2
        go_roundw
        case rel => exact ⟨4, t ++ txt [hx d], by omega, rfl, by go_num, HG, HW⟩
        case measure => simp [intOf]
      · have hd0 : (0 : Int) ≤ (u / 17592186044416) := by have := HUB.out; omega
        have hd1 : Int.tmod (u / 17592186044416) 16 = (u / 17592186044416) % 16 := Int.tmod_eq_emod_of_nonneg hd0
        obtain ⟨d, hd⟩ : ∃ d, (u / 17592186044416) % 16 = d := ⟨_, rfl⟩
        rw [hd] at hd1
        have hd2 : 0 ≤ d := by omega
        have hd3 : d < 16 := by omega
        have hcut := dig_cut d hd2 hd3
        have hd4 : IntKind.u64.wrap (d + 1) = d + 1 := wraps_u64 _ (by omega) (by omega)
        have hl : ¬ 9223372036854775807 < t.size + (txt [hx d]).size := by rw [HT.out, txt_size, txt_size]; simp [hexI_len]
        have HG := Lib.hid (show t ++ txt [hx d] = txt (120 :: (hexI 16 u).take 5) by rw [HT.out, ← hd]; have := hexI_grow u 4 11 (by decide); simpa using this)
        clear hd hd0
        go_wp2
        go_roundw
        case rel => exact ⟨5, t ++ txt [hx d], by omega, rfl, by go_num, HG, HW⟩
        case measure => simp [intOf]
      · have hd0 : (0 : Int) ≤ (u / 1099511627776) := by have := HUB.out; omega
        have hd1 : Int.tmod (u / 1099511627776) 16 = (u / 1099511627776) % 16 := Int.tmod_eq_emod_of_nonneg hd0
        obtain ⟨d, hd⟩ : ∃ d, (u / 1099511627776) % 16 = d := ⟨_, rfl⟩
        rw [hd] at hd1
        have hd2 : 0 ≤ d := by omega
        have hd3 : d < 16 := by omega
        have hcut := dig_cut d hd2 hd3
        have hd4 : IntKind.u64.wrap (d + 1) = d + 1 := wraps_u64 _ (by omega) (by omega)
        have hl : ¬ 9223372036854775807 < t.size + (txt [hx d]).size := by rw [HT.out, txt_size, txt_size]; simp [hexI_len]
        have HG := Lib.hid (show t ++ txt [hx d] = txt (120 :: (hexI 16 u).take 6) by rw [HT.out, ← hd]; have := hexI_grow u 5 10 (by decide); simpa using this)
        clear hd hd0
        go_wp2
        go_roundw
        case rel => exact ⟨6, t ++ txt [hx d], by omega, rfl, by go_num, HG, HW⟩
        case measure => simp [intOf]
      · have hd0 : (0 : Int) ≤ (u / 68719476736) := by have := HUB.out; omega
        have hd1 : Int.tmod (u / 68719476736) 16 = (u / 68719476736) % 16 := Int.tmod_eq_emod_of_nonneg hd0
        obtain ⟨d, hd⟩ : ∃ d, (u / 68719476736) % 16 = d := ⟨_, rfl⟩
        rw [hd] at hd1
        have hd2 : 0 ≤ d := by omega
        have hd3 : d < 16 := by omega
        have hcut := dig_cut d hd2 hd3
        have hd4 : IntKind.u64.wrap (d + 1) = d + 1 := wraps_u64 _ (by omega) (by omega)
        have hl : ¬ 9223372036854775807 < t.size + (txt [hx d]).size := by rw [HT.out, txt_size, txt_size]; simp [hexI_len]
        have HG := Lib.hid (show t ++ txt [hx d] = txt (120 :: (hexI 16 u).take 7) by rw [HT.out, ← hd]; have := hexI_grow u 6 9 (by decide); simpa using this)
        clear hd hd0
        go_wp2
        go_roundw
        case rel => exact ⟨7, t ++ txt [hx d], by omega, rfl, by go_num, HG, HW⟩
        case measure => simp [intOf]
      · have hd0 : (0 : Int) ≤ (u / 4294967296) := by have := HUB.out; omega
        have hd1 : Int.tmod (u / 4294967296) 16 = (u / 4294967296) % 16 := Int.tmod_eq_emod_of_nonneg hd0
        obtain ⟨d, hd⟩ : ∃ d, (u / 4294967296) % 16 = d := ⟨_, rfl⟩
        rw [hd] at hd1
        have hd2 : 0 ≤ d := by omega
        have hd3 : d < 16 := by omega
        have hcut := dig_cut d hd2 hd3
        have hd4 : IntKind.u64.wrap (d + 1) = d + 1 := wraps_u64 _ (by omega) (by omega)
        have hl : ¬ 9223372036854775807 < t.size + (txt [hx d]).size := by rw [HT.out, txt_size, txt_size]; simp [hexI_len]
        have HG := Lib.hid (show t ++ txt [hx d] = txt (120 :: (hexI 16 u).take 8) by rw [HT.out, ← hd]; have := hexI_grow u 7 8 (by decide); simpa using this)
        clear hd hd0
        go_wp2
        go_roundw
        case rel => exact ⟨8, t ++ txt [hx d], by omega, rfl, by go_num, HG, HW⟩
        case measure => simp [intOf]
      · have hd0 : (0 : Int) ≤ (u / 268435456) := by have := HUB.out; omega
        have hd1 : Int.tmod (u / 268435456) 16 = (u / 268435456) % 16 := Int.tmod_eq_emod_of_nonneg hd0
        obtain ⟨d, hd⟩ : ∃ d, (u / 268435456) % 16 = d := ⟨_, rfl⟩
        rw [hd] at hd1
        have hd2 : 0 ≤ d := by omega
        have hd3 : d < 16 := by omega
        have hcut := dig_cut d hd2 hd3
        have hd4 : IntKind.u64.wrap (d + 1) = d + 1 := wraps_u64 _ (by omega) (by omega)
        have hl : ¬ 9223372036854775807 < t.size + (txt [hx d]).size := by rw [HT.out, txt_size, txt_size]; simp [hexI_len]
        have HG := Lib.hid (show t ++ txt [hx d] = txt (120 :: (hexI 16 u).take 9) by rw [HT.out, ← hd]; have := hexI_grow u 8 7 (by decide); simpa using this)
        clear hd hd0
        go_wp2
        go_roundw
        case rel => exact ⟨9, t ++ txt [hx d], by omega, rfl, by go_num, HG, HW⟩
        case measure => simp [intOf]
      · have hd0 : (0 : Int) ≤ (u / 16777216) := by have := HUB.out; omega
        have hd1 : Int.tmod (u / 16777216) 16 = (u / 16777216) % 16 := Int.tmod_eq_emod_of_nonneg hd0
        obtain ⟨d, hd⟩ : ∃ d, (u / 16777216) % 16 = d := ⟨_, rfl⟩
        rw [hd] at hd1
        have hd2 : 0 ≤ d := by omega
        have hd3 : d < 16 := by omega
        have hcut := dig_cut d hd2 hd3
        have hd4 : IntKind.u64.wrap (d + 1) = d + 1 := wraps_u64 _ (by omega) (by omega)
        have hl : ¬ 9223372036854775807 < t.size + (txt [hx d]).size := by rw [HT.out, txt_size, txt_size]; simp [hexI_len]
        have HG := Lib.hid (show t ++ txt [hx d] = txt (120 :: (hexI 16 u).take 10) by rw [HT.out, ← hd]; have := hexI_grow u 9 6 (by decide); simpa using this)
        clear hd hd0
        go_wp2
        go_roundw
        case rel => exact ⟨10, t ++ txt [hx d], by omega, rfl, by go_num, HG, HW⟩
        case measure => simp [intOf]
      · have hd0 : (0 : Int) ≤ (u / 1048576) := by have := HUB.out; omega
        have hd1 : Int.tmod (u / 1048576) 16 = (u / 1048576) % 16 := Int.tmod_eq_emod_of_nonneg hd0
        obtain ⟨d, hd⟩ : ∃ d, (u / 1048576) % 16 = d := ⟨_, rfl⟩
        rw [hd] at hd1
        have hd2 : 0 ≤ d := by omega
        have hd3 : d < 16 := by omega
        have hcut := dig_cut d hd2 hd3
        have hd4 : IntKind.u64.wrap (d + 1) = d + 1 := wraps_u64 _ (by omega) (by omega)
        have hl : ¬ 9223372036854775807 < t.size + (txt [hx d]).size := by rw [HT.out, txt_size, txt_size]; simp [hexI_len]
        have HG := Lib.hid (show t ++ txt [hx d] = txt (120 :: (hexI 16 u).take 11) by rw [HT.out, ← hd]; have := hexI_grow u 10 5 (by decide); simpa using this)
        clear hd hd0
        go_wp2
        go_roundw
        case rel => exact ⟨11, t ++ txt [hx d], by omega, rfl, by go_num, HG, HW⟩
        case measure => simp [intOf]
      · have hd0 : (0 : Int) ≤ (u / 65536) := by have := HUB.out; omega
        have hd1 : Int.tmod (u / 65536) 16 = (u / 65536) % 16 := Int.tmod_eq_emod_of_nonneg hd0
        obtain ⟨d, hd⟩ : ∃ d, (u / 65536) % 16 = d := ⟨_, rfl⟩
        rw [hd] at hd1
        have hd2 : 0 ≤ d := by omega
        have hd3 : d < 16 := by omega
        have hcut := dig_cut d hd2 hd3
        have hd4 : IntKind.u64.wrap (d + 1) = d + 1 := wraps_u64 _ (by omega) (by omega)
        have hl : ¬ 9223372036854775807 < t.size + (txt [hx d]).size := by rw [HT.out, txt_size, txt_size]; simp [hexI_len]
        have HG := Lib.hid (show t ++ txt [hx d] = txt (120 :: (hexI 16 u).take 12) by rw [HT.out, ← hd]; have := hexI_grow u 11 4 (by decide); simpa using this)
        clear hd hd0
        go_wp2
        go_roundw
        case rel => exact ⟨12, t ++ txt [hx d], by omega, rfl, by go_num, HG, HW⟩
        case measure => simp [intOf]
      · have hd0 : (0 : Int) ≤ (u / 4096) := by have := HUB.out; omega
        have hd1 : Int.tmod (u / 4096) 16 = (u / 4096) % 16 := Int.tmod_eq_emod_of_nonneg hd0
        obtain ⟨d, hd⟩ : ∃ d, (u / 4096) % 16 = d := ⟨_, rfl⟩
        rw [hd] at hd1
        have hd2 : 0 ≤ d := by omega
        have hd3 : d < 16 := by omega
        have hcut := dig_cut d hd2 hd3
        have hd4 : IntKind.u64.wrap (d + 1) = d + 1 := wraps_u64 _ (by omega) (by omega)
        have hl : ¬ 9223372036854775807 < t.size + (txt [hx d]).size := by rw [HT.out, txt_size, txt_size]; simp [hexI_len]
        have HG := Lib.hid (show t ++ txt [hx d] = txt (120 :: (hexI 16 u).take 13) by rw [HT.out, ← hd]; have := hexI_grow u 12 3 (by decide); simpa using this)
        clear hd hd0
        go_wp2
        go_roundw
        case rel => exact ⟨13, t ++ txt [hx d], by omega, rfl, by go_num, HG, HW⟩
        case measure => simp [intOf]
      · have hd0 : (0 : Int) ≤ (u / 256) := by have := HUB.out; omega
        have hd1 : Int.tmod (u / 256) 16 = (u / 256) % 16 := Int.tmod_eq_emod_of_nonneg hd0
        obtain ⟨d, hd⟩ : ∃ d, (u / 256) % 16 = d := ⟨_, rfl⟩
        rw [hd] at hd1
        have hd2 : 0 ≤ d := by omega
        have hd3 : d < 16 := by omega
        have hcut := dig_cut d hd2 hd3
        have hd4 : IntKind.u64.wrap (d + 1) = d + 1 := wraps_u64 _ (by omega) (by omega)
        have hl : ¬ 9223372036854775807 < t.size + (txt [hx d]).size := by rw [HT.out, txt_size, txt_size]; simp [hexI_len]
        have HG := Lib.hid (show t ++ txt [hx d] = txt (120 :: (hexI 16 u).take 14) by rw [HT.out, ← hd]; have := hexI_grow u 13 2 (by decide); simpa using this)
        clear hd hd0
        go_wp2
        go_roundw
        case rel => exact ⟨14, t ++ txt [hx d], by omega, rfl, by go_num, HG, HW⟩
        case measure => simp [intOf]
      · have hd0 : (0 : Int) ≤ (u / 16) := by have := HUB.out; omega
        have hd1 : Int.tmod (u / 16) 16 = (u / 16) % 16 := Int.tmod_eq_emod_of_nonneg hd0
        obtain ⟨d, hd⟩ : ∃ d, (u / 16) % 16 = d := ⟨_, rfl⟩
        rw [hd] at hd1
        have hd2 : 0 ≤ d := by omega
        have hd3 : d < 16 := by omega
        have hcut := dig_cut d hd2 hd3
        have hd4 : IntKind.u64.wrap (d + 1) = d + 1 := wraps_u64 _ (by omega) (by omega)
        have hl : ¬ 9223372036854775807 < t.size + (txt [hx d]).size := by rw [HT.out, txt_size, txt_size]; simp [hexI_len]
        have HG := Lib.hid (show t ++ txt [hx d] = txt (120 :: (hexI 16 u).take 15) by rw [HT.out, ← hd]; have := hexI_grow u 14 1 (by decide); simpa using this)
        clear hd hd0
        go_wp2
        go_roundw
        case rel => exact ⟨15, t ++ txt [hx d], by omega, rfl, by go_num, HG, HW⟩
        case measure => simp [intOf]
      · have hd0 : (0 : Int) ≤ u := by have := HUB.out; omega
        have hd1 : Int.tmod u 16 = u % 16 := Int.tmod_eq_emod_of_nonneg hd0
        obtain ⟨d, hd⟩ : ∃ d, u % 16 = d := ⟨_, rfl⟩
        rw [hd] at hd1
        have hd2 : 0 ≤ d := by omega
        have hd3 : d < 16 := by omega
        have hcut := dig_cut d hd2 hd3
        have hd4 : IntKind.u64.wrap (d + 1) = d + 1 := wraps_u64 _ (by omega) (by omega)
        have hl : ¬ 9223372036854775807 < t.size + (txt [hx d]).size := by rw [HT.out, txt_size, txt_size]; simp [hexI_len]
        have HG := Lib.hid (show t ++ txt [hx d] = txt (120 :: (hexI 16 u).take 16) by rw [HT.out, ← hd]; have := hexI_grow u 15 0 (by decide); simpa using this)
        clear hd hd0
        go_wp2
        go_roundw
        case rel => exact ⟨16, t ++ txt [hx d], by omega, rfl, by go_num, HG, HW⟩
        case measure => simp [intOf]
      · rw [List.take_of_length_le (by rw [hexI_len]; exact Nat.le_refl _)] at HT
        have h := HT.out
        subst h
        go_wp2
        go_ret
        exact ⟨rfl, HW.out⟩
end Go.Proofs.YtikpmlginojnhaaGreatDoor.Fl
