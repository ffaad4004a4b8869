/- Numbers as text: formatBits at base 16. -/
import Derived.Test.YtikpmlginojnhaaGreatDoorF8
namespace Go.Proofs.YtikpmlginojnhaaGreatDoor.Fl
open Go.RowKit Go.Maps
set_option linter.unusedVariables false
set_option linter.unusedSimpArgs false
theorem hexI_cons : ∀ (j : Nat) (u : Int), hexI (j + 1) u = hx (u / 16 ^ j % 16) :: hexI j u
  | 0, u => by simp [hexI]
  | j + 1, u => by
    have e : u / 16 / 16 ^ j = u / 16 ^ (j + 1) := by rw [Int.ediv_ediv_of_nonneg (by decide), Int.pow_succ, Int.mul_comm]
    rw [hexI, hexI_cons j (u / 16), hexI, List.cons_append, e]
/-- What the row holds behind j digits. -/
def cont (u : Int) (j t : Nat) : Int := if t < 65 - j then 0 else (hexI j u).getD (t - (65 - j)) 0
theorem cont_next (u : Int) (s j : Nat) (h : s + j = 64) (t : Nat) : (if t = s then hx (u / 16 ^ j % 16) else cont u j t) = cont u (j + 1) t := by
  unfold cont
  rw [hexI_cons]
  by_cases e : t = s
  · subst e
    rw [if_pos rfl, if_neg (by omega), show t - (65 - (j + 1)) = 0 by omega]
    rfl
  · rw [if_neg e]
    by_cases h2 : t < s
    · rw [if_pos (by omega), if_pos (by omega)]
    · rw [if_neg (by omega), if_neg (by omega), show t - (65 - (j + 1)) = (t - (65 - j)) + 1 by omega]
      rfl
theorem zero_row (w : World) : (w.alloc (.cells Tryz.zeroCells127 127)).rowIs w.heap.size 127 65 (fun _ => .int .u8 0) := by
  have e : Tryz.zeroCells127 = (List.replicate 65 (Value.int .u8 0)).toArray := by kernel_rfl
  rw [e]
  have := World.rowIs_alloc w (List.replicate 65 (Value.int .u8 0)).toArray 127 (fun _ => .int .u8 0) (fun i hi => by
    rw [List.size_toArray, List.length_replicate] at hi
    rw [List.getElem?_toArray, List.getElem?_replicate, if_pos hi])
  exact this
theorem dig_at (d : Int) (h0 : 0 ≤ d) (h1 : d < 16) (w : World) : (Instr.index 9 (.string ⟨#[48, 49, 50, 51, 52, 53, 54, 55, 56, 57, 97, 98, 99, 100, 101, 102, 103, 104, 105, 106, 107, 108, 109, 110, 111, 112, 113, 114, 115, 116, 117, 118, 119, 120, 121, 122]⟩) (.int .u64 d)).run Tryz.prog w = .ok (.int .u8 (hx d)) w := by
  obtain rfl | rfl | rfl | rfl | rfl | rfl | rfl | rfl | rfl | rfl | rfl | rfl | rfl | rfl | rfl | rfl : d = 0 ∨ d = 1 ∨ d = 2 ∨ d = 3 ∨ d = 4 ∨ d = 5 ∨ d = 6 ∨ d = 7 ∨ d = 8 ∨ d = 9 ∨ d = 10 ∨ d = 11 ∨ d = 12 ∨ d = 13 ∨ d = 14 ∨ d = 15 := by omega
  all_goals kernel_rfl
theorem low_le (u : Int) (j : Nat) (h1 : u < 18446744073709551616) (h : 16 ≤ u / 16 ^ j) : j + 1 ≤ 15 := by
  have hp : (0 : Int) < 16 ^ j := Int.pow_pos (by decide)
  have h2 : 16 * 16 ^ j ≤ u := (Int.le_ediv_iff_mul_le hp).1 h
  rcases Nat.lt_or_ge j 15 with hj | hj
  · omega
  · exfalso
    obtain ⟨k, rfl⟩ : ∃ k, j = 15 + k := ⟨j - 15, by omega⟩
    rw [Int.pow_add] at h2
    have hk : (0 : Int) < 16 ^ k := Int.pow_pos (by decide)
    have e : (16 : Int) ^ 15 = 1152921504606846976 := by decide
    rw [e] at h2
    generalize (16 : Int) ^ k = p at *
    omega
theorem lt_pow (u : Int) (j : Nat) (h : u / 16 ^ j < 16) : u < 16 ^ (j + 1) := by
  have hp : (0 : Int) < 16 ^ j := Int.pow_pos (by decide)
  rw [Int.pow_succ, Int.mul_comm]
  exact (Int.ediv_lt_iff_lt_mul hp).1 h
set_option maxHeartbeats 4000000 in
set_option maxRecDepth 100000 in
theorem c_fbits (u : Int) (h0 : 0 ≤ u) (h1 : u < 18446744073709551616) (w : World) (hg : Gl w) :
    Calls Tryz.prog 97 #[.slice none 0 0, .int .u64 u, .int .i64 16, .bool false, .bool false] w fun e w' => ∃ m : Nat, 1 ≤ m ∧ m ≤ 16 ∧ u < 16 ^ m ∧ e = .returned (.tuple #[.slice none 0 0, .string (txt (hexI m u))]) ∧ Below w.heap.size w w' := by
  have C := Lib.hid (fun w => c_tz w)
  have C2 := Lib.hid c_pow2
  have HG := Lib.hid hg
  have HU := Lib.hid (⟨h0, h1⟩ : 0 ≤ u ∧ u < 18446744073709551616)
  have HZ := Lib.hid (zero_row w)
  have HBW := Lib.hid ((Below.refl w.heap.size w).alloc (Nat.le_refl _) (.cells Tryz.zeroCells127 127))
  clear hg h0 h1
  go_enter Tryz.func97, Tryz.ntmps97
  go_wp2_with (go_at_call 124; refine (C2.out _).mono ?_; rintro e w' ⟨rfl, rfl⟩)
  generalize w.alloc (.cells Tryz.zeroCells127 127) = wa at HZ HBW ⊢
  refine (C.out _ (HG.out.below HBW.out)).mono ?_
  rintro e w' ⟨rfl, rfl⟩
  go_wp2
  go_loopw [1, 13] (fun v1 v13 W => ∃ (s j : Nat) (q : Int), s + j = 64 ∧ j ≤ 15 ∧ v1 = .int .u64 q ∧ v13 = .int .i64 ((s : Int) + 1) ∧ Hid (q = u / 16 ^ j) ∧ Hid (W.rowIs w.heap.size 127 65 (fun t => .int .u8 (cont u j t))) ∧ Hid (Below w.heap.size w W)) (fun _ v13 _ => (intOf v13).toNat)
  case atStart => exact ⟨64, 0, u, by omega, by omega, rfl, by go_num, Lib.hid (by simp), Lib.hid (HZ.out.congr (fun i hi => by unfold cont; rw [if_pos (by omega)])), HBW⟩
  case round =>
    clear HZ HBW
    obtain ⟨s, j, q, hsj, hj, rfl, rfl, HQ, HR, HW⟩ := hrel
    by_cases hq : 16 ≤ q
    · have hq0 : 0 ≤ q := by omega
      have hqb : q < 18446744073709551616 := by have := HU.out; rw [HQ.out]; exact Int.lt_of_le_of_lt (Int.ediv_le_self _ this.1) this.2
      have hd : decide (16 ≤ q) = true := decide_eq_true hq
      have hm : bits .and .u64 q 15 = q % 16 := bits_mask .u64 64 (by decide) wraps_u64 4 (by decide) q hq0 (by simpa using hqb)
      have hix := dig_at (q % 16) (by omega) (by omega)
      have hc : wr.cell? ⟨w.heap.size, s, none⟩ = some (.int .u8 (cont u j s)) := HR.out.cell (by omega)
      have hf : wr.frozen? ⟨w.heap.size, s, none⟩ = false := HR.out.frozen s
      have hs65 : (s : Int) < 65 := by omega
      have hs0 : (0 : Int) ≤ (s : Int) := by omega
      have hjn := low_le u j HU.out.2 (by rw [← HQ.out]; exact hq)
      have HR2 := Lib.hid (HR.out.set s (.int .u8 (hx (q % 16))))
      have HW2 := Lib.hid (HW.out.setCell (p := ⟨w.heap.size, s, none⟩) (Nat.le_refl _) (.int .u8 (hx (q % 16))))
      have HQ2 := Lib.hid (show q / 16 = u / 16 ^ (j + 1) by rw [HQ.out, Int.ediv_ediv_of_nonneg (Int.pow_nonneg (by decide)), Int.pow_succ])
      have HH := Lib.hid (show hx (q % 16) = hx (u / 16 ^ j % 16) by rw [HQ.out])
      generalize hdd : q % 16 = d at hm hix HR2 HW2 HH
      have HDD := Lib.hid hdd
      clear hq hqb hdd HR HW
      go_wp2
      go_roundw
      case rel => exact ⟨s - 1, j + 1, q / 16, by omega, by omega, rfl, by go_num, HQ2, Lib.hid (HR2.out.congr (fun i hi => by rw [← cont_next u s j hsj i, HH.out]; split <;> rfl)), HW2⟩
      case measure => simp [intOf]
    · have hq0 : 0 ≤ q := by rw [HQ.out]; exact Int.ediv_nonneg HU.out.1 (Int.pow_nonneg (by decide))
      have hd : decide (16 ≤ q) = false := decide_eq_false hq
      have hix := dig_at q (by omega) (by omega)
      have hc : wr.cell? ⟨w.heap.size, s, none⟩ = some (.int .u8 (cont u j s)) := HR.out.cell (by omega)
      have hf : wr.frozen? ⟨w.heap.size, s, none⟩ = false := HR.out.frozen s
      have hs65 : (s : Int) < 65 := by omega
      have hs66 : (s : Int) ≤ 65 := by omega
      have hs0 : (0 : Int) ≤ (s : Int) := by omega
      have HLT := Lib.hid (lt_pow u j (by rw [← HQ.out]; omega))
      have HR2 := Lib.hid ((HR.out.set s (.int .u8 (hx q))).congr (g := fun t => .int .u8 (cont u (j + 1) t)) (fun i hi => by
        have e : q = u / 16 ^ j % 16 := by rw [← HQ.out]; omega
        rw [← cont_next u s j hsj i, ← e]; split <;> rfl))
      have HW2 := Lib.hid (HW.out.setCell (p := ⟨w.heap.size, s, none⟩) (Nat.le_refl _) (.int .u8 (hx q)))
      clear hq HR HW
      have hcv := run_convert_bytes_arg (P := Tryz.prog) (wr.setCell ⟨w.heap.size, s, none⟩ (.int .u8 (hx q))) 26 5 Tryz.underlying26 Tryz.underlying5 w.heap.size s (65 - s) (65 - s) (hexI (j + 1) u) (by rw [hexI_len]; omega) (fun i hi => by
        rw [HR2.out.cell (by omega)]
        unfold cont
        rw [if_neg (by omega), show s + i - (65 - (j + 1)) = i by omega]) 9 Tryz.underlying9
      go_wp2
      go_ret2
      exact ⟨j + 1, by omega, by omega, HLT.out, rfl, HW2.out⟩
theorem c_fuint0 (u : Int) (h0 : 0 ≤ u) (h1 : u < 18446744073709551616) (w : World) (hg : Gl w) :
    Calls Tryz.prog 77 #[.int .u64 u, .int .i64 16] w fun e w' => ∃ m : Nat, 1 ≤ m ∧ m ≤ 16 ∧ u < 16 ^ m ∧ e = .returned (.string (txt (hexI m u))) ∧ Below w.heap.size w w' := by
  have C := Lib.hid (c_fbits u h0 h1 w hg)
  clear hg h0 h1
  go_enter Tryz.func77, Tryz.ntmps77
  go_wp2_with (go_at_call 97; refine C.out.mono ?_; rintro e w' ⟨m, hm1, hm2, hm3, rfl, hb⟩)
  go_ret
  exact ⟨m, hm1, hm2, hm3, rfl, hb⟩
theorem c_fuint (u : Int) (h0 : 0 ≤ u) (h1 : u < 18446744073709551616) (w : World) (hg : Gl w) :
    Calls Tryz.prog 65 #[.int .u64 u, .int .i64 16] w fun e w' => ∃ m : Nat, 1 ≤ m ∧ m ≤ 16 ∧ u < 16 ^ m ∧ e = .returned (.string (txt (hexI m u))) ∧ Below w.heap.size w w' := by
  have C := Lib.hid (c_fuint0 u h0 h1 w hg)
  clear hg h0 h1
  go_enter Tryz.func65, Tryz.ntmps65
  go_wp2_with (go_at_call 77; refine C.out.mono ?_; rintro e w' ⟨m, hm1, hm2, hm3, rfl, hb⟩)
  go_ret
  exact ⟨m, hm1, hm2, hm3, rfl, hb⟩
end Go.Proofs.YtikpmlginojnhaaGreatDoor.Fl
