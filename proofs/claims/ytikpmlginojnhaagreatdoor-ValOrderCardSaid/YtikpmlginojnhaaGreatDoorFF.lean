/- Floating numbers out of text: the document's Read. -/
import Derived.Test.YtikpmlginojnhaaGreatDoorFE
namespace Go.Proofs.YtikpmlginojnhaaGreatDoor.Fl
open Go.RowKit Go.Maps
set_option linter.unusedVariables false
set_option linter.unusedSimpArgs false
theorem dig_at16 (d : Nat) (h1 : d < 16) (w : World) : (Instr.index 9 (.string ⟨#[48, 49, 50, 51, 52, 53, 54, 55, 56, 57, 97, 98, 99, 100, 101, 102]⟩) (.int .i64 (d : Int))).run Tryz.prog w = .ok (.int .u8 (hx d)) w := by
  obtain rfl | rfl | rfl | rfl | rfl | rfl | rfl | rfl | rfl | rfl | rfl | rfl | rfl | rfl | rfl | rfl : d = 0 ∨ d = 1 ∨ d = 2 ∨ d = 3 ∨ d = 4 ∨ d = 5 ∨ d = 6 ∨ d = 7 ∨ d = 8 ∨ d = 9 ∨ d = 10 ∨ d = 11 ∨ d = 12 ∨ d = 13 ∨ d = 14 ∨ d = 15 := by omega
  all_goals kernel_rfl
theorem str_at (s : ByteArray) (i : Nat) (h : i < s.size) (w : World) : (Instr.index 9 (.string s) (.int .i64 (i : Int))).run Tryz.prog w = .ok (.int .u8 ((byt s).getD i 0)) w := by
  rw [run_index_string (h := Tryz.underlying9)]
  rw [dif_pos (by omega)]
  have hk' : i < s.data.toList.length := by rw [Array.length_toList]; exact h
  simp only [byt, List.getD_eq_getElem?_getD, List.getElem?_map, List.getElem?_eq_getElem hk', Option.map_some, Option.getD_some, Array.getElem_toList, Int.toNat_natCast]
  rfl
/-- The text of sixteen digits. -/
def XOf (s : ByteArray) (v : Int) : Prop := s = txt (120 :: hexI 16 v) ∧ 0 ≤ v ∧ v < 18446744073709551616
theorem xof_at {s : ByteArray} {v : Int} (h : XOf s v) (i : Nat) (h1 : 1 ≤ i) (h2 : i < 17) : (byt s).getD i 0 = hx (v / 16 ^ (16 - i) % 16) := by
  obtain ⟨rfl, _, _⟩ := h
  rw [byt_txt _ (hex_byts v)]
  obtain ⟨j, rfl⟩ : ∃ j, i = j + 1 := ⟨i - 1, by omega⟩
  rw [List.getD_cons_succ, hexI_get 16 v j (by omega), show 16 - 1 - j = 16 - (j + 1) by omega]
/-- What is gathered ahead of a place. -/
def Top (s : ByteArray) (i : Nat) (u : Int) : Prop := (0 ≤ u ∧ u < 18446744073709551616) ∧ ∀ v, XOf s v → u = v / 16 ^ (17 - i) * 16 ^ (17 - i)
/-- And at a place, up to a digit. -/
def Mid (s : ByteArray) (i d : Nat) (u : Int) : Prop := (0 ≤ u ∧ u < 18446744073709551616) ∧ ∀ v, XOf s v → u = v / 16 ^ (17 - i) * 16 ^ (17 - i) + (if v / 16 ^ (16 - i) % 16 < (d : Int) then v / 16 ^ (16 - i) % 16 * 16 ^ (16 - i) else 0)
theorem top_mid {s : ByteArray} {i : Nat} {u : Int} (h : Top s i u) : Mid s i 0 u := by
  refine ⟨h.1, fun v hv => ?_⟩
  rw [h.2 v hv, if_neg (by omega)]
  omega
theorem mid_top {s : ByteArray} {i : Nat} {u : Int} (h1 : 1 ≤ i) (h2 : i < 17) (h : Mid s i 16 u) : Top s (i + 1) u := by
  refine ⟨h.1, fun v hv => ?_⟩
  rw [h.2 v hv, if_pos (by omega), show 17 - (i + 1) = 16 - i by omega]
  have e : v / 16 ^ (17 - i) = v / 16 ^ (16 - i) / 16 := by
    rw [Int.ediv_ediv_of_nonneg (Int.pow_nonneg (by decide)), show 17 - i = (16 - i) + 1 by omega, Int.pow_succ]
  have e2 : (16 : Int) ^ (17 - i) = 16 * 16 ^ (16 - i) := by rw [show 17 - i = (16 - i) + 1 by omega, Int.pow_succ, Int.mul_comm]
  rw [e, e2, ← Int.mul_assoc, ← Int.add_mul]
  congr 1
  omega
theorem mid_no {s : ByteArray} {i d : Nat} {u : Int} (h1 : 1 ≤ i) (h2 : i < 17) (hd : d < 16) (h : Mid s i d u) (hc : ¬ hx d = (byt s).getD i 0) : Mid s i (d + 1) u := by
  refine ⟨h.1, fun v hv => ?_⟩
  rw [h.2 v hv]
  have h3 := xof_at hv i h1 h2
  have h4 : v / 16 ^ (16 - i) % 16 ≠ (d : Int) := fun e => hc (by rw [h3, e])
  congr 1
  by_cases h5 : v / 16 ^ (16 - i) % 16 < (d : Int)
  · rw [if_pos h5, if_pos (by omega)]
  · rw [if_neg h5, if_neg (by omega)]
theorem mid_yes {s : ByteArray} {i d : Nat} {u q r : Int} (h1 : 1 ≤ i) (h2 : i < 17) (hd : d < 16) (h : Mid s i d u) (hc : hx d = (byt s).getD i 0) (hq : IntKind.u64.wrap ((d : Int) * 2 ^ (64 - 4 * i)) = q) (hr : IntKind.u64.wrap (u + q) = r) : Mid s i (d + 1) r := by
  refine ⟨by rw [← hr, wrap_u64]; omega, fun v hv => ?_⟩
  have h3 := xof_at hv i h1 h2
  have h4 : v / 16 ^ (16 - i) % 16 = (d : Int) := by
    rw [h3] at hc
    exact (hx_inj (by omega) (by omega) hc).symm
  have h5 := h.2 v hv
  rw [if_neg (by omega), Int.add_zero] at h5
  have e2 : (2 : Int) ^ (64 - 4 * i) = 16 ^ (16 - i) := by
    rw [show 64 - 4 * i = 4 * (16 - i) by omega, Int.pow_mul]
    rfl
  have e3 : v / 16 ^ (17 - i) = v / 16 ^ (16 - i) / 16 := by
    rw [Int.ediv_ediv_of_nonneg (Int.pow_nonneg (by decide)), show 17 - i = (16 - i) + 1 by omega, Int.pow_succ]
  have e4 : (16 : Int) ^ (17 - i) = 16 * 16 ^ (16 - i) := by rw [show 17 - i = (16 - i) + 1 by omega, Int.pow_succ, Int.mul_comm]
  have hp : (0 : Int) < 16 ^ (16 - i) := Int.pow_pos (by decide)
  have hsum : u + (d : Int) * 16 ^ (16 - i) = v / 16 ^ (16 - i) * 16 ^ (16 - i) := by
    rw [h5, e3, e4, ← Int.mul_assoc, ← Int.add_mul]
    congr 1
    omega
  have hle : v / 16 ^ (16 - i) * 16 ^ (16 - i) ≤ v := by rw [Int.mul_comm]; exact Int.mul_ediv_self_le (by omega)
  have hd0 : 0 ≤ (d : Int) * 16 ^ (16 - i) := Int.mul_nonneg (by omega) (by omega)
  have hv2 := hv.2.2
  have hu := h.1.1
  rw [e2] at hq
  have hq2 : q = (d : Int) * 16 ^ (16 - i) := by rw [← hq, wrap_u64]; omega
  have hr2 : r = u + (d : Int) * 16 ^ (16 - i) := by rw [← hr, hq2, wrap_u64]; omega
  rw [hr2, h4, if_pos (by omega), ← h5]
set_option maxHeartbeats 4000000 in
set_option maxRecDepth 100000 in
theorem c_rread (s : ByteArray) (hs : s.size ≤ 140737488351232) (w : World) (n : Int) (b : Bool) (hr : RdIs s n b) :
    Calls Tryz.prog 51 #[.string s] w fun e w' => e = .returned (.tuple #[.int .i64 n, .bool b]) ∧ Below w.heap.size w w' := by
  have HR := Lib.hid hr
  have HS := Lib.hid hs
  have HST := Lib.hid (Rd.start w 3 (.int .i64 9221120237041090560) (.int .i64 9218868437227405312) (.int .i64 (-4503599627370496)) (.int .i64 0) (.int .i64 (-9223372036854775808)))
  clear hr hs
  go_enter Tryz.func51, Tryz.ntmps51
  go_wp2
  generalize w.alloc (.cells #[.int .i64 9221120237041090560, .int .i64 9218868437227405312, .int .i64 (-4503599627370496), .int .i64 0, .int .i64 (-9223372036854775808)] 3) = w1 at HST ⊢
  go_loopw [5] (fun v13 W => ∃ i : Nat, i ≤ 5 ∧ v13 = .int .i64 i ∧ Hid (Nots s i) ∧ Hid (Rd w W 3 (.int .i64 9221120237041090560) (.int .i64 9218868437227405312) (.int .i64 (-4503599627370496)) (.int .i64 0) (.int .i64 (-9223372036854775808)))) (fun v13 _ => 5 - (intOf v13).toNat)
  case atStart => exact ⟨0, by omega, by go_num, Lib.hid (by unfold Nots; exact ⟨fun h => by omega, fun h => by omega, fun h => by omega, fun h => by omega, fun h => by omega⟩), HST⟩
  case round =>
    clear HST
    obtain ⟨i, hi, rfl, HN, HW⟩ := hrel
    obtain rfl | rfl | rfl | rfl | rfl | rfl : i = 0 ∨ i = 1 ∨ i = 2 ∨ i = 3 ∨ i = 4 ∨ i = 5 := by omega
    · obtain ⟨x0, x1, x2, x3, x4⟩ := cells5 HW.out.blk
      have C2 := Lib.hid (fun W => c_rshow 9221120237041090560 (by decide) _ rfl W)
      obtain ⟨t, ht⟩ : ∃ t, showS 9221120237041090560 = t := ⟨_, rfl⟩
      rw [ht] at C2
      have HT := Lib.hid ht
      clear ht
      by_cases hq : t.toList = s.toList
      · have tq : (t.toList == s.toList) = true := by simp [hq]
        have HE := Lib.hid (rd_yes HR.out (m := 9221120237041090560) (by unfold Wf; decide) (by decide) (by rw [HT.out]; exact toList_inj hq))
        clear hq
        go_wp2_with (go_at_call 45; ((with_reducible refine (C2.out _).mono ?_); rintro e w' ⟨rfl, hb⟩; have HB := Lib.hid (HW.out.below hb); clear hb x0 x1 x2 x3 x4; obtain ⟨x0, x1, x2, x3, x4⟩ := cells5 HB.out.blk))
        go_ret2
        have hE := HE.out
        obtain ⟨rfl, rfl⟩ := hE
        exact ⟨rfl, HB.out.bel⟩
      · have tq : (t.toList == s.toList) = false := by simp [hq]
        have HNS := Lib.hid (show showS 9221120237041090560 ≠ s by rw [HT.out]; intro e; subst e; exact hq rfl)
        clear hq
        go_wp2_with (go_at_call 45; ((with_reducible refine (C2.out _).mono ?_); rintro e w' ⟨rfl, hb⟩; have HB := Lib.hid (HW.out.below hb); clear hb x0 x1 x2 x3 x4; obtain ⟨x0, x1, x2, x3, x4⟩ := cells5 HB.out.blk))
        go_roundw
        case rel => exact ⟨1, by omega, by go_num, Lib.hid ⟨fun _ => HNS.out, fun h => by omega, fun h => by omega, fun h => by omega, fun h => by omega⟩, HB⟩
        case measure => simp [intOf]
    · obtain ⟨x0, x1, x2, x3, x4⟩ := cells5 HW.out.blk
      have C2 := Lib.hid (fun W => c_rshow 9218868437227405312 (by decide) _ rfl W)
      obtain ⟨t, ht⟩ : ∃ t, showS 9218868437227405312 = t := ⟨_, rfl⟩
      rw [ht] at C2
      have HT := Lib.hid ht
      clear ht
      by_cases hq : t.toList = s.toList
      · have tq : (t.toList == s.toList) = true := by simp [hq]
        have HE := Lib.hid (rd_yes HR.out (m := 9218868437227405312) (by unfold Wf; decide) (by decide) (by rw [HT.out]; exact toList_inj hq))
        clear hq
        go_wp2_with (go_at_call 45; ((with_reducible refine (C2.out _).mono ?_); rintro e w' ⟨rfl, hb⟩; have HB := Lib.hid (HW.out.below hb); clear hb x0 x1 x2 x3 x4; obtain ⟨x0, x1, x2, x3, x4⟩ := cells5 HB.out.blk))
        go_ret2
        have hE := HE.out
        obtain ⟨rfl, rfl⟩ := hE
        exact ⟨rfl, HB.out.bel⟩
      · have tq : (t.toList == s.toList) = false := by simp [hq]
        have HNS := Lib.hid (show showS 9218868437227405312 ≠ s by rw [HT.out]; intro e; subst e; exact hq rfl)
        clear hq
        go_wp2_with (go_at_call 45; ((with_reducible refine (C2.out _).mono ?_); rintro e w' ⟨rfl, hb⟩; have HB := Lib.hid (HW.out.below hb); clear hb x0 x1 x2 x3 x4; obtain ⟨x0, x1, x2, x3, x4⟩ := cells5 HB.out.blk))
        go_roundw
        case rel => exact ⟨2, by omega, by go_num, Lib.hid ⟨fun _ => HN.out.1 (by omega), fun _ => HNS.out, fun h => by omega, fun h => by omega, fun h => by omega⟩, HB⟩
        case measure => simp [intOf]
    · obtain ⟨x0, x1, x2, x3, x4⟩ := cells5 HW.out.blk
      have C2 := Lib.hid (fun W => c_rshow (-4503599627370496) (by decide) _ rfl W)
      obtain ⟨t, ht⟩ : ∃ t, showS (-4503599627370496) = t := ⟨_, rfl⟩
      rw [ht] at C2
      have HT := Lib.hid ht
      clear ht
      by_cases hq : t.toList = s.toList
      · have tq : (t.toList == s.toList) = true := by simp [hq]
        have HE := Lib.hid (rd_yes HR.out (m := (-4503599627370496)) (by unfold Wf; decide) (by decide) (by rw [HT.out]; exact toList_inj hq))
        clear hq
        go_wp2_with (go_at_call 45; ((with_reducible refine (C2.out _).mono ?_); rintro e w' ⟨rfl, hb⟩; have HB := Lib.hid (HW.out.below hb); clear hb x0 x1 x2 x3 x4; obtain ⟨x0, x1, x2, x3, x4⟩ := cells5 HB.out.blk))
        go_ret2
        have hE := HE.out
        obtain ⟨rfl, rfl⟩ := hE
        exact ⟨rfl, HB.out.bel⟩
      · have tq : (t.toList == s.toList) = false := by simp [hq]
        have HNS := Lib.hid (show showS (-4503599627370496) ≠ s by rw [HT.out]; intro e; subst e; exact hq rfl)
        clear hq
        go_wp2_with (go_at_call 45; ((with_reducible refine (C2.out _).mono ?_); rintro e w' ⟨rfl, hb⟩; have HB := Lib.hid (HW.out.below hb); clear hb x0 x1 x2 x3 x4; obtain ⟨x0, x1, x2, x3, x4⟩ := cells5 HB.out.blk))
        go_roundw
        case rel => exact ⟨3, by omega, by go_num, Lib.hid ⟨fun _ => HN.out.1 (by omega), fun _ => HN.out.2.1 (by omega), fun _ => HNS.out, fun h => by omega, fun h => by omega⟩, HB⟩
        case measure => simp [intOf]
    · obtain ⟨x0, x1, x2, x3, x4⟩ := cells5 HW.out.blk
      have C2 := Lib.hid (fun W => c_rshow 0 (by decide) _ rfl W)
      obtain ⟨t, ht⟩ : ∃ t, showS 0 = t := ⟨_, rfl⟩
      rw [ht] at C2
      have HT := Lib.hid ht
      clear ht
      by_cases hq : t.toList = s.toList
      · have tq : (t.toList == s.toList) = true := by simp [hq]
        have HE := Lib.hid (rd_yes HR.out (m := 0) (by unfold Wf; decide) (by decide) (by rw [HT.out]; exact toList_inj hq))
        clear hq
        go_wp2_with (go_at_call 45; ((with_reducible refine (C2.out _).mono ?_); rintro e w' ⟨rfl, hb⟩; have HB := Lib.hid (HW.out.below hb); clear hb x0 x1 x2 x3 x4; obtain ⟨x0, x1, x2, x3, x4⟩ := cells5 HB.out.blk))
        go_ret2
        have hE := HE.out
        obtain ⟨rfl, rfl⟩ := hE
        exact ⟨rfl, HB.out.bel⟩
      · have tq : (t.toList == s.toList) = false := by simp [hq]
        have HNS := Lib.hid (show showS 0 ≠ s by rw [HT.out]; intro e; subst e; exact hq rfl)
        clear hq
        go_wp2_with (go_at_call 45; ((with_reducible refine (C2.out _).mono ?_); rintro e w' ⟨rfl, hb⟩; have HB := Lib.hid (HW.out.below hb); clear hb x0 x1 x2 x3 x4; obtain ⟨x0, x1, x2, x3, x4⟩ := cells5 HB.out.blk))
        go_roundw
        case rel => exact ⟨4, by omega, by go_num, Lib.hid ⟨fun _ => HN.out.1 (by omega), fun _ => HN.out.2.1 (by omega), fun _ => HN.out.2.2.1 (by omega), fun _ => HNS.out, fun h => by omega⟩, HB⟩
        case measure => simp [intOf]
    · obtain ⟨x0, x1, x2, x3, x4⟩ := cells5 HW.out.blk
      have C2 := Lib.hid (fun W => c_rshow (-9223372036854775808) (by decide) _ rfl W)
      obtain ⟨t, ht⟩ : ∃ t, showS (-9223372036854775808) = t := ⟨_, rfl⟩
      rw [ht] at C2
      have HT := Lib.hid ht
      clear ht
      by_cases hq : t.toList = s.toList
      · have tq : (t.toList == s.toList) = true := by simp [hq]
        have HE := Lib.hid (rd_yes HR.out (m := (-9223372036854775808)) (by unfold Wf; decide) (by decide) (by rw [HT.out]; exact toList_inj hq))
        clear hq
        go_wp2_with (go_at_call 45; ((with_reducible refine (C2.out _).mono ?_); rintro e w' ⟨rfl, hb⟩; have HB := Lib.hid (HW.out.below hb); clear hb x0 x1 x2 x3 x4; obtain ⟨x0, x1, x2, x3, x4⟩ := cells5 HB.out.blk))
        go_ret2
        have hE := HE.out
        obtain ⟨rfl, rfl⟩ := hE
        exact ⟨rfl, HB.out.bel⟩
      · have tq : (t.toList == s.toList) = false := by simp [hq]
        have HNS := Lib.hid (show showS (-9223372036854775808) ≠ s by rw [HT.out]; intro e; subst e; exact hq rfl)
        clear hq
        go_wp2_with (go_at_call 45; ((with_reducible refine (C2.out _).mono ?_); rintro e w' ⟨rfl, hb⟩; have HB := Lib.hid (HW.out.below hb); clear hb x0 x1 x2 x3 x4; obtain ⟨x0, x1, x2, x3, x4⟩ := cells5 HB.out.blk))
        go_roundw
        case rel => exact ⟨5, by omega, by go_num, Lib.hid ⟨fun _ => HN.out.1 (by omega), fun _ => HN.out.2.1 (by omega), fun _ => HN.out.2.2.1 (by omega), fun _ => HN.out.2.2.2.1 (by omega), fun _ => HNS.out⟩, HB⟩
        case measure => simp [intOf]
    · by_cases h17 : s.size = 17
      · have tq : ((s.size : Int) != 17) = false := by simp [h17]
        have H17 := Lib.hid h17
        clear h17
        have HBW := Lib.hid HW.out.bel
        have HX := Lib.hid (show ∀ m, Wf m → rightU (U m) = true → showS m = s → XOf s (U m) from fun m h1 h2 h3 => by
          have h4 : ¬ Named m := by
            rintro (rfl | rfl | rfl | rfl | rfl)
            · exact HN.out.1 (by omega) h3
            · exact HN.out.2.1 (by omega) h3
            · exact HN.out.2.2.1 (by omega) h3
            · exact HN.out.2.2.2.1 (by omega) h3
            · exact HN.out.2.2.2.2 (by omega) h3
          exact ⟨by rw [← h3, show_hex h2 h4], U_bd m⟩)
        clear HN HW
        go_wp2
        go_loopw [6, 7] (fun v6 v7 W => ∃ (i : Nat) (u : Int), 1 ≤ i ∧ i ≤ 17 ∧ v6 = .int .u64 u ∧ v7 = .int .i64 i ∧ Hid (Top s i u) ∧ Hid (Below w.heap.size w W)) (fun _ v7 _ => 17 - (intOf v7).toNat)
        case atStart => exact ⟨1, 0, by omega, by omega, rfl, by go_num, Lib.hid ⟨by omega, fun v hv => by
          have e : (16 : Int) ^ (17 - 1) = 18446744073709551616 := by decide
          rw [e]
          have := hv.2
          omega⟩, HBW⟩
        case round =>
          clear HBW
          obtain ⟨wo, rfl⟩ : ∃ wo : World, wo = wr := ⟨_, rfl⟩
          obtain ⟨i, u, hi1, hi2, rfl, rfl, HT, HBW⟩ := hrel
          by_cases hi : i < 17
          · have hi0 : (0 : Int) ≤ (i : Int) := by omega
            have hi3 : (i : Int) < 17 := by omega
            have hi4 : (i : Int) < (s.size : Int) := by have := H17.out; omega
            have hst := str_at s i (by have := H17.out; omega)
            have hw1 : IntKind.u64.wrap (64 - 4 * (i : Int)) = 64 - 4 * (i : Int) := wraps_u64 _ (by omega) (by omega)
            have HI := Lib.hid (⟨hi1, hi⟩ : 1 ≤ i ∧ i < 17)
            have HM := Lib.hid (top_mid HT.out)
            obtain ⟨c, hc⟩ : ∃ c, (byt s).getD i 0 = c := ⟨_, rfl⟩
            rw [hc] at hst
            have HC := Lib.hid hc
            clear hc
            go_wp2
            go_loopw [6, 8] (fun v6 v8 W => ∃ (d : Nat) (u2 : Int), d ≤ 16 ∧ v6 = .int .u64 u2 ∧ v8 = .int .i64 d ∧ Hid (Mid s i d u2) ∧ Hid (Below w.heap.size w W)) (fun _ v8 _ => 16 - (intOf v8).toNat)
            case atStart => exact ⟨0, u, by omega, rfl, by go_num, HM, HBW⟩
            case round =>
              clear HM HBW HT
              obtain ⟨d, u2, hd, rfl, rfl, HM, HBW⟩ := hrel
              by_cases hd2 : d < 16
              · have hd0 : (0 : Int) ≤ (d : Int) := by omega
                have hd3 : (d : Int) < 16 := by omega
                have hix := dig_at16 d hd2
                have HD := Lib.hid hd2
                by_cases hxc : hx (d : Int) = c
                · have tc : (hx (d : Int) == c) = true := by simp [hxc]
                  have hw2 : IntKind.u64.wrap (d : Int) = (d : Int) := wraps_u64 _ (by omega) (by omega)
                  obtain ⟨q, hq⟩ : ∃ q, IntKind.u64.wrap ((d : Int) * 2 ^ (64 - 4 * i)) = q := ⟨_, rfl⟩
                  obtain ⟨r, hr⟩ : ∃ r, IntKind.u64.wrap (u2 + q) = r := ⟨_, rfl⟩
                  have HM2 := Lib.hid (mid_yes HI.out.1 HI.out.2 HD.out HM.out (by rw [HC.out]; exact hxc) hq hr)
                  have hq2 : IntKind.u64.wrap ((d : Int) * 2 ^ (64 - 4 * (i : Int)).toNat) = q := by rw [show (64 - 4 * (i : Int)).toNat = 64 - 4 * i by omega]; exact hq
                  clear hxc hq hd2
                  go_wp2
                  go_quiet (fail)
                  go_wp2
                  go_roundw
                  case rel => exact ⟨d + 1, r, by omega, rfl, by go_num, HM2, Lib.hid (below_dr HBW.out _)⟩
                  case measure => simp [intOf]; omega
                · have tc : (hx (d : Int) == c) = false := by simp [hxc]
                  have HM2 := Lib.hid (mid_no HI.out.1 HI.out.2 HD.out HM.out (by rw [HC.out]; exact hxc))
                  clear hxc hd2
                  go_wp2
                  go_quiet (fail)
                  go_wp2
                  go_roundw
                  case rel => exact ⟨d + 1, u2, by omega, rfl, by go_num, HM2, Lib.hid (below_dr HBW.out _)⟩
                  case measure => simp [intOf]; omega
              · have hd' : d = 16 := by omega
                subst hd'
                go_wp2
                go_roundw
                case rel => exact ⟨i + 1, u2, by omega, by omega, rfl, by go_num, Lib.hid (mid_top HI.out.1 HI.out.2 HM.out), HBW⟩
                case measure => simp [intOf]; omega
          · have hi' : i = 17 := by omega
            subst hi'
            obtain ⟨n2, hn2⟩ : ∃ n2, wrap64 u = n2 := ⟨_, rfl⟩
            have hwf : Wf n2 := by rw [← hn2]; unfold wrap64 Wf; omega
            have HU2 := Lib.hid (show U n2 = u by rw [← hn2]; exact U_wrap HT.out.1)
            have C3 := Lib.hid (fun W => c_rshow n2 hwf _ rfl W)
            have HWF := Lib.hid hwf
            have HV := Lib.hid (fun m (h1 : Wf m) (h2 : rightU (U m) = true) (h3 : showS m = s) => (show n2 = m from by
              have h4 := HX.out m h1 h2 h3
              have h5 := HT.out.2 (U m) h4
              refine U_inj HWF.out h1 ?_
              rw [HU2.out, h5]
              simp))
            obtain ⟨t, ht⟩ : ∃ t, showS n2 = t := ⟨_, rfl⟩
            rw [ht] at C3
            have HTT := Lib.hid ht
            clear ht hwf
            by_cases hq : t.toList = s.toList
            · have tq : (t.toList == s.toList) = true := by simp [hq]
              have HE := Lib.hid (rd_yes HR.out (m := n2) HWF.out (by
                cases hr : rightU (U n2) with
                | true => rfl
                | false =>
                  exfalso
                  have e1 : showS n2 = ⟨#[63]⟩ := by unfold showS; rw [if_pos hr]
                  have e2 : s = ⟨#[63]⟩ := by rw [← toList_inj hq, ← HTT.out, e1]
                  have e3 := H17.out
                  rw [e2] at e3
                  revert e3
                  decide) (by rw [HTT.out]; exact toList_inj hq))
              clear hq
              go_wp2_with (go_at_call 45; ((with_reducible refine (C3.out _).mono ?_); rintro e w3 ⟨rfl, hb⟩; have HB3 := Lib.hid (HBW.out.trans (hb.mono HBW.out.size)); clear hb))
              go_ret2
              have hE := HE.out
              obtain ⟨rfl, rfl⟩ := hE
              exact ⟨rfl, HB3.out⟩
            · have tq : (t.toList == s.toList) = false := by simp [hq]
              have HE := Lib.hid (rd_no HR.out (fun m h1 h2 h3 => by
                have h6 := HV.out m h1 h2 h3
                subst h6
                rw [HTT.out] at h3
                exact hq (by rw [h3])))
              clear hq
              go_wp2_with (go_at_call 45; ((with_reducible refine (C3.out _).mono ?_); rintro e w3 ⟨rfl, hb⟩; have HB3 := Lib.hid (HBW.out.trans (hb.mono HBW.out.size)); clear hb))
              go_ret2
              have hE := HE.out
              obtain ⟨rfl, rfl⟩ := hE
              exact ⟨rfl, HB3.out⟩
      · have tq : ((s.size : Int) != 17) = true := by rw [bne_iff_ne]; omega
        have HE := Lib.hid (rd_no HR.out (fun m h1 h2 h3 => by
          have h4 : ¬ Named m := by
            rintro (rfl | rfl | rfl | rfl | rfl)
            · exact HN.out.1 (by omega) h3
            · exact HN.out.2.1 (by omega) h3
            · exact HN.out.2.2.1 (by omega) h3
            · exact HN.out.2.2.2.1 (by omega) h3
            · exact HN.out.2.2.2.2 (by omega) h3
          exact h17 (by rw [← h3]; exact show_long h2 h4)))
        clear h17
        go_wp2
        go_ret2
        have hE := HE.out
        obtain ⟨rfl, rfl⟩ := hE
        exact ⟨rfl, HW.out.bel⟩
end Go.Proofs.YtikpmlginojnhaaGreatDoor.Fl
