/- Floating numbers: the document's eight bytes. -/
import Derived.Test.YtikpmlginojnhaaGreatDoorF4
namespace Go.Proofs.YtikpmlginojnhaaGreatDoor.Fl
open Go.RowKit Go.Maps
set_option linter.unusedVariables false
set_option linter.unusedSimpArgs false
theorem HasB.block {w : World} {g e c : Nat} {l : List Int} {fr : Nat × Nat} (h : w.heap[g]? = some (.cells (l.map (Value.int .u8)).toArray e fr)) (hc : l.length ≤ c) : HasB w (.slice (some ⟨g, 0, none⟩) l.length c) l := by
  refine ⟨_, c, rfl, hc, fun k hk => ⟨_, rfl, ?_⟩⟩
  rw [add_plain]
  simp [World.cell?, h, hk, List.getD_eq_getElem?_getD]
theorem rank_of (n : Int) (hn : -9223372036854775808 ≤ n ∧ n ≤ 9223372036854775807) (hr : rightU (U n) = true) : (n < 0 → 18446744073709551615 - U n = rankU (U n)) ∧ (¬ n < 0 → U n + 9223372036854775808 = rankU (U n) ∧ U n < 9223372036854775808) := by
  unfold rankU
  rw [if_pos hr]
  clear hr
  unfold U
  constructor
  · intro h
    rw [if_neg (by omega)]
  · intro h
    rw [if_pos (by omega)]
    omega
/-- So many of the eight bytes stand. -/
def st8 (r : Int) (j : Nat) : List Int := List.replicate (8 - j) 0 ++ (b8 r).drop (8 - j)
theorem make8 (w : World) : (Instr.makeSlice 26 (.int .i64 8) (.int .i64 8)).run Tryz.prog w = .ok (.slice (some ⟨w.heap.size, 0, none⟩) 8 8) (w.alloc (.cells ((st8 0 0).map (Value.int .u8)).toArray 5)) := by
  obtain ⟨i0, hi, hz0, hz1, hz2⟩ := info_parts info5
  have h1 := run_make (P := Tryz.prog) w 26 5 i0 (.int .u8 0) Tryz.underlying26 hi hz0 .i64 .i64 8 8 (by omega) (by omega) (by rw [hz2]; omega) (by omega)
  rw [hz1] at h1
  have e : madeCells (Value.int IntKind.u8 0).cells (Int.toNat 8 * 1) = ((st8 0 0).map (Value.int .u8)).toArray := by
    apply Array.toList_inj.1
    show (madeCells #[Value.int .u8 0] 8).toList = _
    rw [toList_madeCells_one]
    rfl
  rw [e] at h1
  exact h1
theorem pow_next (r : Int) (j : Nat) : r / 256 ^ j / 256 = r / 256 ^ (j + 1) := by
  rw [Int.ediv_ediv_of_nonneg (Int.pow_nonneg (by decide)), Int.pow_succ]
set_option maxHeartbeats 4000000 in
set_option maxRecDepth 100000 in
theorem c_rbytes (n : Int) (hn : -9223372036854775808 ≤ n ∧ n ≤ 9223372036854775807) (w : World) :
    Calls Tryz.prog 27 #[.int .i64 n] w fun e w' => ∃ v, e = .returned v ∧ HasB w' v (bytesF n) ∧ Below w.heap.size w w' := by
  have hu : IntKind.u64.wrap n = U n := wrap_U n
  cases hr : rightU (U n) with
  | false =>
    have C1 := Lib.hid (c_rright n hn false hr)
    have HB := Lib.hid (show bytesF n = [] by unfold bytesF; rw [if_neg (by rw [hr]; decide)])
    clear hu hr hn
    go_enter Tryz.func27, Tryz.ntmps27
    go_wp2_with (go_at_call 32; refine (C1.out _).mono ?_; rintro e w' ⟨rfl, rfl⟩)
    go_ret
    exact ⟨_, rfl, by rw [HB.out]; exact HasB.nil _, Below.refl _ _⟩
  | true =>
    have C1 := Lib.hid (c_rright n hn true hr)
    have HB := Lib.hid (show bytesF n = b8 (rankU (U n)) by unfold bytesF; rw [if_pos hr])
    obtain ⟨hr1, hr2⟩ := rank_of n hn hr
    have hx := b_not (U n) (U_bd n).1 (U_bd n).2
    rw [← max_u64] at hx
    have hbd := rankU_bd (U n) (U_bd n).1 (U_bd n).2
    have hU := Tryz.underlying26
    have HR1 := Lib.hid hr1
    have HR2 := Lib.hid hr2
    have HBD := Lib.hid hbd
    clear hr hn hr1 hr2 hbd
    have hmk := make8 w
    obtain ⟨r, hr⟩ : ∃ r, rankU (U n) = r := ⟨_, rfl⟩
    rw [hr] at HB HR1 HR2 HBD
    clear hr
    by_cases hz : n < 0
    · have hq := HR1.out hz
      rw [show IntKind.u64.max - U n = 18446744073709551615 - U n by rw [max_u64], hq] at hx
      have hd : decide (n < 0) = true := decide_eq_true hz
      generalize U n = u at hu hx
      clear hz hq HR1 HR2
      go_enter Tryz.func27, Tryz.ntmps27
      go_wp2_with (go_at_call 32; refine (C1.out _).mono ?_; rintro e w' ⟨rfl, rfl⟩)
      clear hu hx hd
      go_loopw [3, 5] (fun v3 v5 W => ∃ (j : Nat) (u : Int), j ≤ 8 ∧ v3 = .int .u64 u ∧ v5 = .int .i64 (7 - (j : Int)) ∧ Hid (u = r / 256 ^ j) ∧ W = w.alloc (.cells ((st8 r j).map (Value.int .u8)).toArray 5)) (fun _ v5 _ => (intOf v5 + 1).toNat)
      case atStart => exact ⟨0, r, by omega, rfl, by go_num, Lib.hid (by simp), rfl⟩
      case round =>
        obtain ⟨j, u, hj, rfl, rfl, HQ, rfl⟩ := hrel
        obtain rfl | rfl | rfl | rfl | rfl | rfl | rfl | rfl | rfl : j = 0 ∨ j = 1 ∨ j = 2 ∨ j = 3 ∨ j = 4 ∨ j = 5 ∨ j = 6 ∨ j = 7 ∨ j = 8 := by omega
        · have hu0 : 0 ≤ u := by have h := HQ.out; have := HBD.out; simp only [Int.reducePow] at h; omega
          have hm1 : Int.tmod u 256 = u % 256 := Int.tmod_eq_emod_of_nonneg hu0
          have hm2 : Int.tdiv u 256 = u / 256 := Int.tdiv_eq_ediv_of_nonneg hu0
          have hm3 : IntKind.u64.wrap (u / 256) = u / 256 := wraps_u64 _ (by omega) (by have h := HQ.out; have := HBD.out; simp only [Int.reducePow] at h; show u / 256 < 18446744073709551616; omega)
          have HS := Lib.hid (show st8 r 1 = [0, 0, 0, 0, 0, 0, 0, u % 256] by rw [HQ.out]; simp [st8, b8])
          rw [show st8 r 0 = [0, 0, 0, 0, 0, 0, 0, 0] by simp [st8, b8]]
          simp only [List.map]
          go_wp2
          go_roundw
          case rel => exact ⟨1, u / 256, by omega, rfl, by go_num, Lib.hid (by rw [HQ.out]; exact pow_next r 0), by rw [HS.out]; rfl⟩
          case measure => simp [intOf]
        · have hu0 : 0 ≤ u := by have h := HQ.out; have := HBD.out; simp only [Int.reducePow] at h; omega
          have hm1 : Int.tmod u 256 = u % 256 := Int.tmod_eq_emod_of_nonneg hu0
          have hm2 : Int.tdiv u 256 = u / 256 := Int.tdiv_eq_ediv_of_nonneg hu0
          have hm3 : IntKind.u64.wrap (u / 256) = u / 256 := wraps_u64 _ (by omega) (by have h := HQ.out; have := HBD.out; simp only [Int.reducePow] at h; show u / 256 < 18446744073709551616; omega)
          have HS := Lib.hid (show st8 r 2 = [0, 0, 0, 0, 0, 0, u % 256, r % 256] by rw [HQ.out]; simp [st8, b8])
          rw [show st8 r 1 = [0, 0, 0, 0, 0, 0, 0, r % 256] by simp [st8, b8]]
          simp only [List.map]
          go_wp2
          go_roundw
          case rel => exact ⟨2, u / 256, by omega, rfl, by go_num, Lib.hid (by rw [HQ.out]; exact pow_next r 1), by rw [HS.out]; rfl⟩
          case measure => simp [intOf]
        · have hu0 : 0 ≤ u := by have h := HQ.out; have := HBD.out; simp only [Int.reducePow] at h; omega
          have hm1 : Int.tmod u 256 = u % 256 := Int.tmod_eq_emod_of_nonneg hu0
          have hm2 : Int.tdiv u 256 = u / 256 := Int.tdiv_eq_ediv_of_nonneg hu0
          have hm3 : IntKind.u64.wrap (u / 256) = u / 256 := wraps_u64 _ (by omega) (by have h := HQ.out; have := HBD.out; simp only [Int.reducePow] at h; show u / 256 < 18446744073709551616; omega)
          have HS := Lib.hid (show st8 r 3 = [0, 0, 0, 0, 0, u % 256, r / 256 % 256, r % 256] by rw [HQ.out]; simp [st8, b8])
          rw [show st8 r 2 = [0, 0, 0, 0, 0, 0, r / 256 % 256, r % 256] by simp [st8, b8]]
          simp only [List.map]
          go_wp2
          go_roundw
          case rel => exact ⟨3, u / 256, by omega, rfl, by go_num, Lib.hid (by rw [HQ.out]; exact pow_next r 2), by rw [HS.out]; rfl⟩
          case measure => simp [intOf]
        · have hu0 : 0 ≤ u := by have h := HQ.out; have := HBD.out; simp only [Int.reducePow] at h; omega
          have hm1 : Int.tmod u 256 = u % 256 := Int.tmod_eq_emod_of_nonneg hu0
          have hm2 : Int.tdiv u 256 = u / 256 := Int.tdiv_eq_ediv_of_nonneg hu0
          have hm3 : IntKind.u64.wrap (u / 256) = u / 256 := wraps_u64 _ (by omega) (by have h := HQ.out; have := HBD.out; simp only [Int.reducePow] at h; show u / 256 < 18446744073709551616; omega)
          have HS := Lib.hid (show st8 r 4 = [0, 0, 0, 0, u % 256, r / 65536 % 256, r / 256 % 256, r % 256] by rw [HQ.out]; simp [st8, b8])
          rw [show st8 r 3 = [0, 0, 0, 0, 0, r / 65536 % 256, r / 256 % 256, r % 256] by simp [st8, b8]]
          simp only [List.map]
          go_wp2
          go_roundw
          case rel => exact ⟨4, u / 256, by omega, rfl, by go_num, Lib.hid (by rw [HQ.out]; exact pow_next r 3), by rw [HS.out]; rfl⟩
          case measure => simp [intOf]
        · have hu0 : 0 ≤ u := by have h := HQ.out; have := HBD.out; simp only [Int.reducePow] at h; omega
          have hm1 : Int.tmod u 256 = u % 256 := Int.tmod_eq_emod_of_nonneg hu0
          have hm2 : Int.tdiv u 256 = u / 256 := Int.tdiv_eq_ediv_of_nonneg hu0
          have hm3 : IntKind.u64.wrap (u / 256) = u / 256 := wraps_u64 _ (by omega) (by have h := HQ.out; have := HBD.out; simp only [Int.reducePow] at h; show u / 256 < 18446744073709551616; omega)
          have HS := Lib.hid (show st8 r 5 = [0, 0, 0, u % 256, r / 16777216 % 256, r / 65536 % 256, r / 256 % 256, r % 256] by rw [HQ.out]; simp [st8, b8])
          rw [show st8 r 4 = [0, 0, 0, 0, r / 16777216 % 256, r / 65536 % 256, r / 256 % 256, r % 256] by simp [st8, b8]]
          simp only [List.map]
          go_wp2
          go_roundw
          case rel => exact ⟨5, u / 256, by omega, rfl, by go_num, Lib.hid (by rw [HQ.out]; exact pow_next r 4), by rw [HS.out]; rfl⟩
          case measure => simp [intOf]
        · have hu0 : 0 ≤ u := by have h := HQ.out; have := HBD.out; simp only [Int.reducePow] at h; omega
          have hm1 : Int.tmod u 256 = u % 256 := Int.tmod_eq_emod_of_nonneg hu0
          have hm2 : Int.tdiv u 256 = u / 256 := Int.tdiv_eq_ediv_of_nonneg hu0
          have hm3 : IntKind.u64.wrap (u / 256) = u / 256 := wraps_u64 _ (by omega) (by have h := HQ.out; have := HBD.out; simp only [Int.reducePow] at h; show u / 256 < 18446744073709551616; omega)
          have HS := Lib.hid (show st8 r 6 = [0, 0, u % 256, r / 4294967296 % 256, r / 16777216 % 256, r / 65536 % 256, r / 256 % 256, r % 256] by rw [HQ.out]; simp [st8, b8])
          rw [show st8 r 5 = [0, 0, 0, r / 4294967296 % 256, r / 16777216 % 256, r / 65536 % 256, r / 256 % 256, r % 256] by simp [st8, b8]]
          simp only [List.map]
          go_wp2
          go_roundw
          case rel => exact ⟨6, u / 256, by omega, rfl, by go_num, Lib.hid (by rw [HQ.out]; exact pow_next r 5), by rw [HS.out]; rfl⟩
          case measure => simp [intOf]
        · have hu0 : 0 ≤ u := by have h := HQ.out; have := HBD.out; simp only [Int.reducePow] at h; omega
          have hm1 : Int.tmod u 256 = u % 256 := Int.tmod_eq_emod_of_nonneg hu0
          have hm2 : Int.tdiv u 256 = u / 256 := Int.tdiv_eq_ediv_of_nonneg hu0
          have hm3 : IntKind.u64.wrap (u / 256) = u / 256 := wraps_u64 _ (by omega) (by have h := HQ.out; have := HBD.out; simp only [Int.reducePow] at h; show u / 256 < 18446744073709551616; omega)
          have HS := Lib.hid (show st8 r 7 = [0, u % 256, r / 1099511627776 % 256, r / 4294967296 % 256, r / 16777216 % 256, r / 65536 % 256, r / 256 % 256, r % 256] by rw [HQ.out]; simp [st8, b8])
          rw [show st8 r 6 = [0, 0, r / 1099511627776 % 256, r / 4294967296 % 256, r / 16777216 % 256, r / 65536 % 256, r / 256 % 256, r % 256] by simp [st8, b8]]
          simp only [List.map]
          go_wp2
          go_roundw
          case rel => exact ⟨7, u / 256, by omega, rfl, by go_num, Lib.hid (by rw [HQ.out]; exact pow_next r 6), by rw [HS.out]; rfl⟩
          case measure => simp [intOf]
        · have hu0 : 0 ≤ u := by have h := HQ.out; have := HBD.out; simp only [Int.reducePow] at h; omega
          have hm1 : Int.tmod u 256 = u % 256 := Int.tmod_eq_emod_of_nonneg hu0
          have hm2 : Int.tdiv u 256 = u / 256 := Int.tdiv_eq_ediv_of_nonneg hu0
          have hm3 : IntKind.u64.wrap (u / 256) = u / 256 := wraps_u64 _ (by omega) (by have h := HQ.out; have := HBD.out; simp only [Int.reducePow] at h; show u / 256 < 18446744073709551616; omega)
          have HS := Lib.hid (show st8 r 8 = [u % 256, r / 281474976710656 % 256, r / 1099511627776 % 256, r / 4294967296 % 256, r / 16777216 % 256, r / 65536 % 256, r / 256 % 256, r % 256] by rw [HQ.out]; simp [st8, b8])
          rw [show st8 r 7 = [0, r / 281474976710656 % 256, r / 1099511627776 % 256, r / 4294967296 % 256, r / 16777216 % 256, r / 65536 % 256, r / 256 % 256, r % 256] by simp [st8, b8]]
          simp only [List.map]
          go_wp2
          go_roundw
          case rel => exact ⟨8, u / 256, by omega, rfl, by go_num, Lib.hid (by rw [HQ.out]; exact pow_next r 7), by rw [HS.out]; rfl⟩
          case measure => simp [intOf]
        · go_wp2
          go_ret
          refine ⟨_, rfl, ?_, (Below.refl _ _).alloc (Nat.le_refl _) _⟩
          rw [HB.out]
          exact HasB.block (l := b8 r) (heap_alloc_new _ _) (by show 8 ≤ 8; decide)
    · have hq := (HR2.out hz).1
      have hq2 : IntKind.u64.wrap (U n + 9223372036854775808) = r := by have := HBD.out; rw [wrap_u64]; omega
      have hd : decide (n < 0) = false := decide_eq_false hz
      generalize U n = u at hu hq2
      clear hz hq HR1 HR2 hx
      go_enter Tryz.func27, Tryz.ntmps27
      go_wp2_with (go_at_call 32; refine (C1.out _).mono ?_; rintro e w' ⟨rfl, rfl⟩)
      clear hu hq2 hd
      go_loopw [3, 5] (fun v3 v5 W => ∃ (j : Nat) (u : Int), j ≤ 8 ∧ v3 = .int .u64 u ∧ v5 = .int .i64 (7 - (j : Int)) ∧ Hid (u = r / 256 ^ j) ∧ W = w.alloc (.cells ((st8 r j).map (Value.int .u8)).toArray 5)) (fun _ v5 _ => (intOf v5 + 1).toNat)
      case atStart => exact ⟨0, r, by omega, rfl, by go_num, Lib.hid (by simp), rfl⟩
      case round =>
        obtain ⟨j, u, hj, rfl, rfl, HQ, rfl⟩ := hrel
        obtain rfl | rfl | rfl | rfl | rfl | rfl | rfl | rfl | rfl : j = 0 ∨ j = 1 ∨ j = 2 ∨ j = 3 ∨ j = 4 ∨ j = 5 ∨ j = 6 ∨ j = 7 ∨ j = 8 := by omega
        · have hu0 : 0 ≤ u := by have h := HQ.out; have := HBD.out; simp only [Int.reducePow] at h; omega
          have hm1 : Int.tmod u 256 = u % 256 := Int.tmod_eq_emod_of_nonneg hu0
          have hm2 : Int.tdiv u 256 = u / 256 := Int.tdiv_eq_ediv_of_nonneg hu0
          have hm3 : IntKind.u64.wrap (u / 256) = u / 256 := wraps_u64 _ (by omega) (by have h := HQ.out; have := HBD.out; simp only [Int.reducePow] at h; show u / 256 < 18446744073709551616; omega)
          have HS := Lib.hid (show st8 r 1 = [0, 0, 0, 0, 0, 0, 0, u % 256] by rw [HQ.out]; simp [st8, b8])
          rw [show st8 r 0 = [0, 0, 0, 0, 0, 0, 0, 0] by simp [st8, b8]]
          simp only [List.map]
          go_wp2
          go_roundw
          case rel => exact ⟨1, u / 256, by omega, rfl, by go_num, Lib.hid (by rw [HQ.out]; exact pow_next r 0), by rw [HS.out]; rfl⟩
          case measure => simp [intOf]
        · have hu0 : 0 ≤ u := by have h := HQ.out; have := HBD.out; simp only [Int.reducePow] at h; omega
          have hm1 : Int.tmod u 256 = u % 256 := Int.tmod_eq_emod_of_nonneg hu0
          have hm2 : Int.tdiv u 256 = u / 256 := Int.tdiv_eq_ediv_of_nonneg hu0
          have hm3 : IntKind.u64.wrap (u / 256) = u / 256 := wraps_u64 _ (by omega) (by have h := HQ.out; have := HBD.out; simp only [Int.reducePow] at h; show u / 256 < 18446744073709551616; omega)
          have HS := Lib.hid (show st8 r 2 = [0, 0, 0, 0, 0, 0, u % 256, r % 256] by rw [HQ.out]; simp [st8, b8])
          rw [show st8 r 1 = [0, 0, 0, 0, 0, 0, 0, r % 256] by simp [st8, b8]]
          simp only [List.map]
          go_wp2
          go_roundw
          case rel => exact ⟨2, u / 256, by omega, rfl, by go_num, Lib.hid (by rw [HQ.out]; exact pow_next r 1), by rw [HS.out]; rfl⟩
          case measure => simp [intOf]
        · have hu0 : 0 ≤ u := by have h := HQ.out; have := HBD.out; simp only [Int.reducePow] at h; omega
          have hm1 : Int.tmod u 256 = u % 256 := Int.tmod_eq_emod_of_nonneg hu0
          have hm2 : Int.tdiv u 256 = u / 256 := Int.tdiv_eq_ediv_of_nonneg hu0
          have hm3 : IntKind.u64.wrap (u / 256) = u / 256 := wraps_u64 _ (by omega) (by have h := HQ.out; have := HBD.out; simp only [Int.reducePow] at h; show u / 256 < 18446744073709551616; omega)
          have HS := Lib.hid (show st8 r 3 = [0, 0, 0, 0, 0, u % 256, r / 256 % 256, r % 256] by rw [HQ.out]; simp [st8, b8])
          rw [show st8 r 2 = [0, 0, 0, 0, 0, 0, r / 256 % 256, r % 256] by simp [st8, b8]]
          simp only [List.map]
          go_wp2
          go_roundw
          case rel => exact ⟨3, u / 256, by omega, rfl, by go_num, Lib.hid (by rw [HQ.out]; exact pow_next r 2), by rw [HS.out]; rfl⟩
          case measure => simp [intOf]
        · have hu0 : 0 ≤ u := by have h := HQ.out; have := HBD.out; simp only [Int.reducePow] at h; omega
          have hm1 : Int.tmod u 256 = u % 256 := Int.tmod_eq_emod_of_nonneg hu0
          have hm2 : Int.tdiv u 256 = u / 256 := Int.tdiv_eq_ediv_of_nonneg hu0
          have hm3 : IntKind.u64.wrap (u / 256) = u / 256 := wraps_u64 _ (by omega) (by have h := HQ.out; have := HBD.out; simp only [Int.reducePow] at h; show u / 256 < 18446744073709551616; omega)
          have HS := Lib.hid (show st8 r 4 = [0, 0, 0, 0, u % 256, r / 65536 % 256, r / 256 % 256, r % 256] by rw [HQ.out]; simp [st8, b8])
          rw [show st8 r 3 = [0, 0, 0, 0, 0, r / 65536 % 256, r / 256 % 256, r % 256] by simp [st8, b8]]
          simp only [List.map]
          go_wp2
          go_roundw
          case rel => exact ⟨4, u / 256, by omega, rfl, by go_num, Lib.hid (by rw [HQ.out]; exact pow_next r 3), by rw [HS.out]; rfl⟩
          case measure => simp [intOf]
        · have hu0 : 0 ≤ u := by have h := HQ.out; have := HBD.out; simp only [Int.reducePow] at h; omega
          have hm1 : Int.tmod u 256 = u % 256 := Int.tmod_eq_emod_of_nonneg hu0
          have hm2 : Int.tdiv u 256 = u / 256 := Int.tdiv_eq_ediv_of_nonneg hu0
          have hm3 : IntKind.u64.wrap (u / 256) = u / 256 := wraps_u64 _ (by omega) (by have h := HQ.out; have := HBD.out; simp only [Int.reducePow] at h; show u / 256 < 18446744073709551616; omega)
          have HS := Lib.hid (show st8 r 5 = [0, 0, 0, u % 256, r / 16777216 % 256, r / 65536 % 256, r / 256 % 256, r % 256] by rw [HQ.out]; simp [st8, b8])
          rw [show st8 r 4 = [0, 0, 0, 0, r / 16777216 % 256, r / 65536 % 256, r / 256 % 256, r % 256] by simp [st8, b8]]
          simp only [List.map]
          go_wp2
          go_roundw
          case rel => exact ⟨5, u / 256, by omega, rfl, by go_num, Lib.hid (by rw [HQ.out]; exact pow_next r 4), by rw [HS.out]; rfl⟩
          case measure => simp [intOf]
        · have hu0 : 0 ≤ u := by have h := HQ.out; have := HBD.out; simp only [Int.reducePow] at h; omega
          have hm1 : Int.tmod u 256 = u % 256 := Int.tmod_eq_emod_of_nonneg hu0
          have hm2 : Int.tdiv u 256 = u / 256 := Int.tdiv_eq_ediv_of_nonneg hu0
          have hm3 : IntKind.u64.wrap (u / 256) = u / 256 := wraps_u64 _ (by omega) (by have h := HQ.out; have := HBD.out; simp only [Int.reducePow] at h; show u / 256 < 18446744073709551616; omega)
          have HS := Lib.hid (show st8 r 6 = [0, 0, u % 256, r / 4294967296 % 256, r / 16777216 % 256, r / 65536 % 256, r / 256 % 256, r % 256] by rw [HQ.out]; simp [st8, b8])
          rw [show st8 r 5 = [0, 0, 0, r / 4294967296 % 256, r / 16777216 % 256, r / 65536 % 256, r / 256 % 256, r % 256] by simp [st8, b8]]
          simp only [List.map]
          go_wp2
          go_roundw
          case rel => exact ⟨6, u / 256, by omega, rfl, by go_num, Lib.hid (by rw [HQ.out]; exact pow_next r 5), by rw [HS.out]; rfl⟩
          case measure => simp [intOf]
        · have hu0 : 0 ≤ u := by have h := HQ.out; have := HBD.out; simp only [Int.reducePow] at h; omega
          have hm1 : Int.tmod u 256 = u % 256 := Int.tmod_eq_emod_of_nonneg hu0
          have hm2 : Int.tdiv u 256 = u / 256 := Int.tdiv_eq_ediv_of_nonneg hu0
          have hm3 : IntKind.u64.wrap (u / 256) = u / 256 := wraps_u64 _ (by omega) (by have h := HQ.out; have := HBD.out; simp only [Int.reducePow] at h; show u / 256 < 18446744073709551616; omega)
          have HS := Lib.hid (show st8 r 7 = [0, u % 256, r / 1099511627776 % 256, r / 4294967296 % 256, r / 16777216 % 256, r / 65536 % 256, r / 256 % 256, r % 256] by rw [HQ.out]; simp [st8, b8])
          rw [show st8 r 6 = [0, 0, r / 1099511627776 % 256, r / 4294967296 % 256, r / 16777216 % 256, r / 65536 % 256, r / 256 % 256, r % 256] by simp [st8, b8]]
          simp only [List.map]
          go_wp2
          go_roundw
          case rel => exact ⟨7, u / 256, by omega, rfl, by go_num, Lib.hid (by rw [HQ.out]; exact pow_next r 6), by rw [HS.out]; rfl⟩
          case measure => simp [intOf]
        · have hu0 : 0 ≤ u := by have h := HQ.out; have := HBD.out; simp only [Int.reducePow] at h; omega
          have hm1 : Int.tmod u 256 = u % 256 := Int.tmod_eq_emod_of_nonneg hu0
          have hm2 : Int.tdiv u 256 = u / 256 := Int.tdiv_eq_ediv_of_nonneg hu0
          have hm3 : IntKind.u64.wrap (u / 256) = u / 256 := wraps_u64 _ (by omega) (by have h := HQ.out; have := HBD.out; simp only [Int.reducePow] at h; show u / 256 < 18446744073709551616; omega)
          have HS := Lib.hid (show st8 r 8 = [u % 256, r / 281474976710656 % 256, r / 1099511627776 % 256, r / 4294967296 % 256, r / 16777216 % 256, r / 65536 % 256, r / 256 % 256, r % 256] by rw [HQ.out]; simp [st8, b8])
          rw [show st8 r 7 = [0, r / 281474976710656 % 256, r / 1099511627776 % 256, r / 4294967296 % 256, r / 16777216 % 256, r / 65536 % 256, r / 256 % 256, r % 256] by simp [st8, b8]]
          simp only [List.map]
          go_wp2
          go_roundw
          case rel => exact ⟨8, u / 256, by omega, rfl, by go_num, Lib.hid (by rw [HQ.out]; exact pow_next r 7), by rw [HS.out]; rfl⟩
          case measure => simp [intOf]
        · go_wp2
          go_ret
          refine ⟨_, rfl, ?_, (Below.refl _ _).alloc (Nat.le_refl _) _⟩
          rw [HB.out]
          exact HasB.block (l := b8 r) (heap_alloc_new _ _) (by show 8 ≤ 8; decide)
end Go.Proofs.YtikpmlginojnhaaGreatDoor.Fl
