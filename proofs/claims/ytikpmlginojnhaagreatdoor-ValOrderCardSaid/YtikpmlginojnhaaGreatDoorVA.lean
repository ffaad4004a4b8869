/- Values as text. -/
import Derived.Test.YtikpmlginojnhaaGreatDoorV9
import Derived.Lib.AppendIntMem
namespace Go.Proofs.YtikpmlginojnhaaGreatDoor.Fl
open Go.RowKit Go.Maps
set_option linter.unusedVariables false
set_option linter.unusedSimpArgs false
theorem dec_len : ∀ (k u : Nat), 1 ≤ k → u < 10 ^ k → (Lib.decDigits u).length ≤ k
  | 0, _, h, _ => by omega
  | 1, u, _, h => by
    rw [Lib.decDigits, dif_pos (by omega)]
    simp
  | k + 2, u, _, h => by
    rw [Lib.decDigits]
    split
    · simp
    · rw [List.length_append]
      have := dec_len (k + 1) (u / 10) (by omega) (by rw [Nat.pow_succ] at h; omega)
      simp
      omega
theorem dig_cut10 (d : Int) (h0 : 0 ≤ d) (h1 : d < 10) (w : World) : (Instr.slice 9 (.string ⟨#[48, 49, 50, 51, 52, 53, 54, 55, 56, 57]⟩) (some (.int .u64 d)) (some (.int .u64 (d + 1))) none).run Tryz.prog w = .ok (.string ⟨#[UInt8.ofNat (48 + d.toNat)]⟩) w := by
  obtain rfl | rfl | rfl | rfl | rfl | rfl | rfl | rfl | rfl | rfl : d = 0 ∨ d = 1 ∨ d = 2 ∨ d = 3 ∨ d = 4 ∨ d = 5 ∨ d = 6 ∨ d = 7 ∨ d = 8 ∨ d = 9 := by omega
  all_goals kernel_rfl
/-- What is told, and what is left to tell. -/
def Dc (m0 : Nat) (m : Nat) (t : ByteArray) : Prop := (Lib.decDigits m0).toArray = (Lib.decDigits m).toArray ++ t.data
theorem dc_len {m0 m : Nat} {t : ByteArray} (h : Dc m0 m t) (hm : m0 < 100000000000000000000) : t.size ≤ 20 := by
  have h1 := dec_len 20 m0 (by omega) (by simpa using hm)
  have h2 := congrArg Array.size h
  rw [Array.size_append, List.size_toArray, List.size_toArray] at h2
  show t.data.size ≤ 20
  omega
theorem dc_next {m0 m : Nat} {t : ByteArray} (h : Dc m0 m t) (h9 : ¬ m / 10 = 0) : Dc m0 (m / 10) (⟨#[UInt8.ofNat (48 + m % 10)]⟩ ++ t) := by
  unfold Dc at *
  rw [h, Lib.decDigits, dif_neg (by omega), ByteArray.data_append]
  apply Array.toList_inj.1
  simp
theorem dc_last {m0 m : Nat} {t : ByteArray} (h : Dc m0 m t) (h9 : m / 10 = 0) : (⟨(Lib.decDigits m0).toArray⟩ : ByteArray) = ⟨#[UInt8.ofNat (48 + m % 10)]⟩ ++ t := by
  unfold Dc at h
  apply ByteArray.ext
  rw [ByteArray.data_append, h, Lib.decDigits, dif_pos (by omega), Nat.mod_eq_of_lt (by omega)]
set_option maxHeartbeats 4000000 in
set_option maxRecDepth 100000 in
theorem c_decimal (n : Int) (hn : Wf n) (w : World) :
    Calls Tryz.prog 44 #[.int .i64 n] w fun e w' => e = .returned (.string ⟨(Lib.itoa n).toArray⟩) ∧ Below w.heap.size w w' := by
  have hu := wrap_U n
  have hng : n < 0 → IntKind.u64.wrap (-(U n)) = (n.natAbs : Int) := fun h => by unfold Wf at hn; unfold U; rw [wrap_u64]; omega
  have hps : ¬ n < 0 → U n = (n.natAbs : Int) := fun h => by unfold Wf at hn; unfold U; omega
  have HM := Lib.hid (show n.natAbs < 18446744073709551616 by unfold Wf at hn; omega)
  obtain ⟨m0, hm0⟩ : ∃ m0, n.natAbs = m0 := ⟨_, rfl⟩
  rw [hm0] at hng hps HM
  obtain ⟨r, hr⟩ : ∃ r : ByteArray, ⟨(Lib.decDigits m0).toArray⟩ = r := ⟨_, rfl⟩
  have HR := Lib.hid hr
  have hsz : r.size ≤ 20 := by
    have h1 := dec_len 20 m0 (by omega) (by have := HM.out; simp; omega)
    rw [← hr]
    exact h1
  by_cases hz : n < 0
  · have hq := hng hz
    have hres : (⟨(Lib.itoa n).toArray⟩ : ByteArray) = ⟨#[45]⟩ ++ r := by
      unfold Lib.itoa
      rw [if_pos hz, hm0, ← hr]
      apply ByteArray.ext
      rw [ByteArray.data_append]
      apply Array.toList_inj.1
      simp
    rw [hres]
    have hd : decide (n < 0) = true := decide_eq_true hz
    generalize U n = u0 at hu hq
    clear hng hps hn hm0 hr hres hz
    go_enter Tryz.func44, Tryz.ntmps44
    go_wp2
    go_loopw [3, 4] (fun v3 v4 W => ∃ (m : Nat) (t : ByteArray), v3 = .string t ∧ v4 = .int .u64 (m : Int) ∧ Hid (Dc m0 m t) ∧ Hid (m ≤ m0) ∧ W = w) (fun _ v4 _ => (intOf v4).toNat)
    case atStart => exact ⟨m0, ⟨#[]⟩, rfl, rfl, Lib.hid (by unfold Dc; simp), Lib.hid (Nat.le_refl _), rfl⟩
    case round =>
      obtain ⟨m, t, rfl, rfl, HD, HLE, rfl⟩ := hrel
      have htz := dc_len HD.out (by have := HM.out; omega)
      have m1 : Int.tmod (m : Int) 10 = ((m % 10 : Nat) : Int) := by rw [Int.tmod_eq_emod_of_nonneg (by omega)]; rfl
      have m2 : Int.tdiv (m : Int) 10 = ((m / 10 : Nat) : Int) := by rw [Int.tdiv_eq_ediv_of_nonneg (by omega)]; rfl
      have m3 : IntKind.u64.wrap ((m / 10 : Nat) : Int) = ((m / 10 : Nat) : Int) := by have := HM.out; have := HLE.out; rw [wrap_u64]; omega
      have x0 := dig_cut10 ((m % 10 : Nat) : Int) (by omega) (by omega)
      rw [Int.toNat_natCast] at x0
      have m4 : IntKind.u64.wrap (((m % 10 : Nat) : Int) + 1) = ((m % 10 : Nat) : Int) + 1 := by rw [wrap_u64]; omega
      have hdq : m % 10 < 10 := by omega
      have hl1 : ¬ 9223372036854775807 < 1 + t.size := by omega
      have hl2 : ¬ 9223372036854775807 < 1 + (1 + t.size) := by omega
      have HN := Lib.hid (fun h => dc_next (m := m) HD.out h)
      have HE := Lib.hid (fun h => dc_last (m := m) HD.out h)
      have HQ := Lib.hid (show 1 ≤ m / 10 → m / 10 < m by omega)
      have HQ2 := Lib.hid (show m / 10 ≤ m0 by have := HLE.out; omega)
      generalize hbb : UInt8.ofNat (48 + m % 10) = bb at x0 HN HE
      clear hbb
      generalize m % 10 = d at *
      generalize m / 10 = q at *
      by_cases h9 : q = 0
      · subst h9
        have HE2 := Lib.hid (HE.out rfl)
        rw [HR.out] at HE2
        clear HE HN
        go_wp2
        go_ret
        exact ⟨by show Ending.returned (.string _) = _; rw [HE2.out], Below.refl _ _⟩
      · have t9 : ((q : Int) == 0) = false := by simp; omega
        have HQ3 := Lib.hid (HQ.out (by omega))
        have HN2 := Lib.hid (HN.out h9)
        clear HE HN
        go_wp2
        go_roundw
        case rel => exact ⟨q, _, rfl, rfl, HN2, HQ2, by trivial⟩
        case measure => have := HQ3.out; simp [intOf]; omega
  · have hq := hps hz
    have hres : (⟨(Lib.itoa n).toArray⟩ : ByteArray) = r := by
      unfold Lib.itoa
      rw [if_neg hz, ← hr, ← hm0]
      congr 3
      omega
    rw [hres]
    have hd : decide (n < 0) = false := decide_eq_false hz
    rw [hq] at hu
    clear hng hps hn hm0 hr hres hz hq
    go_enter Tryz.func44, Tryz.ntmps44
    go_wp2
    go_loopw [3, 4] (fun v3 v4 W => ∃ (m : Nat) (t : ByteArray), v3 = .string t ∧ v4 = .int .u64 (m : Int) ∧ Hid (Dc m0 m t) ∧ Hid (m ≤ m0) ∧ W = w) (fun _ v4 _ => (intOf v4).toNat)
    case atStart => exact ⟨m0, ⟨#[]⟩, rfl, rfl, Lib.hid (by unfold Dc; simp), Lib.hid (Nat.le_refl _), rfl⟩
    case round =>
      obtain ⟨m, t, rfl, rfl, HD, HLE, rfl⟩ := hrel
      have htz := dc_len HD.out (by have := HM.out; omega)
      have m1 : Int.tmod (m : Int) 10 = ((m % 10 : Nat) : Int) := by rw [Int.tmod_eq_emod_of_nonneg (by omega)]; rfl
      have m2 : Int.tdiv (m : Int) 10 = ((m / 10 : Nat) : Int) := by rw [Int.tdiv_eq_ediv_of_nonneg (by omega)]; rfl
      have m3 : IntKind.u64.wrap ((m / 10 : Nat) : Int) = ((m / 10 : Nat) : Int) := by have := HM.out; have := HLE.out; rw [wrap_u64]; omega
      have x0 := dig_cut10 ((m % 10 : Nat) : Int) (by omega) (by omega)
      rw [Int.toNat_natCast] at x0
      have m4 : IntKind.u64.wrap (((m % 10 : Nat) : Int) + 1) = ((m % 10 : Nat) : Int) + 1 := by rw [wrap_u64]; omega
      have hdq : m % 10 < 10 := by omega
      have hl1 : ¬ 9223372036854775807 < 1 + t.size := by omega
      have HN := Lib.hid (fun h => dc_next (m := m) HD.out h)
      have HE := Lib.hid (fun h => dc_last (m := m) HD.out h)
      have HQ := Lib.hid (show 1 ≤ m / 10 → m / 10 < m by omega)
      have HQ2 := Lib.hid (show m / 10 ≤ m0 by have := HLE.out; omega)
      generalize hbb : UInt8.ofNat (48 + m % 10) = bb at x0 HN HE
      clear hbb
      generalize m % 10 = d at *
      generalize m / 10 = q at *
      by_cases h9 : q = 0
      · subst h9
        have HE2 := Lib.hid (HE.out rfl)
        rw [HR.out] at HE2
        clear HE HN
        go_wp2
        go_ret
        exact ⟨by show Ending.returned (.string _) = _; rw [HE2.out], Below.refl _ _⟩
      · have t9 : ((q : Int) == 0) = false := by simp; omega
        have HQ3 := Lib.hid (HQ.out (by omega))
        have HN2 := Lib.hid (HN.out h9)
        clear HE HN
        go_wp2
        go_roundw
        case rel => exact ⟨q, _, rfl, rfl, HN2, HQ2, by trivial⟩
        case measure => have := HQ3.out; simp [intOf]; omega
/-- A value as text. -/
def showV (k n : Int) (s : ByteArray) : ByteArray :=
  if rightV k n s = false then ⟨#[63]⟩ else if k = 1 then ⟨(Lib.itoa n).toArray⟩ else if k = 4 then (if n = 1 then ⟨#[116, 114, 117, 101]⟩ else ⟨#[102, 97, 108, 115, 101]⟩)
  else if k = 5 then ⟨#[102]⟩ ++ showS n else if k = 2 then ⟨#[98]⟩ ++ txt (quo (byt s)) else ⟨#[116]⟩ ++ txt (quo (byt s))
theorem showS_size (n : Int) : (showS n).size ≤ 17 := by
  unfold showS
  repeat' split
  all_goals first | decide | (rw [txt_size, List.length_cons, hexI_len]; decide)
theorem quo_size (s : ByteArray) (h : s.size ≤ 32) : (txt (quo (byt s))).size ≤ 98 := by
  rw [txt_size]
  unfold quo
  have := qq_len (byt s)
  rw [byt_len] at this
  simp
  omega
theorem c_itoa (n : Int) (hn : Wf n) (w : World) (hg : Gv w) : Calls Tryz.prog 40 #[.int .i64 n] w fun e w' => e = .returned (.string ⟨(Lib.itoa n).toArray⟩) ∧ Below w.heap.size w w' := by
  refine (Tryz.strconv_Itoa n hn.1 hn.2 w hg.p10).mono ?_
  rintro e w' ⟨rfl, k, os, rfl⟩
  exact ⟨rfl, Lib.below_grow _ w (Nat.le_refl _) k os⟩
set_option maxHeartbeats 4000000 in
set_option maxRecDepth 100000 in
theorem c_vshow (k n : Int) (s : ByteArray) (hn : Wf n) (hs : s.size ≤ 140737488351232) (w : World) (hg : Gv w) :
    Calls Tryz.prog 18 #[vv k n s] w fun e w' => e = .returned (.string (showV k n s)) ∧ Below w.heap.size w w' := by
  have hbx := (Below.refl w.heap.size w).alloc (Nat.le_refl _) (.cells #[.int .i64 k, .int .i64 n, .string s] 23)
  have HG := Lib.hid (hg.below hbx)
  have HB := Lib.hid hbx
  clear hbx hg
  cases hr : rightV k n s with
  | false =>
    rw [show showV k n s = ⟨#[63]⟩ by unfold showV; rw [if_pos hr]]
    have C1 := Lib.hid (fun W hg => c_vright k n s hn (by omega) false hr W hg)
    unfold vv at C1 ⊢
    clear hr
    go_enter Tryz.func18, Tryz.ntmps18
    go_wp2_with (go_at_call 13; ((refine (C1.out _ HG.out).mono ?_); rintro e w' ⟨rfl, hb⟩; have HB2 := Lib.hid (HB.out.trans (hb.mono HB.out.size)); clear hb))
    go_ret
    exact ⟨rfl, HB2.out⟩
  | true =>
    have C1 := Lib.hid (fun W hg => c_vright k n s hn (by omega) true hr W hg)
    have hsh : showV k n s = (if k = 1 then ⟨(Lib.itoa n).toArray⟩ else if k = 4 then (if n = 1 then ⟨#[116, 114, 117, 101]⟩ else ⟨#[102, 97, 108, 115, 101]⟩) else if k = 5 then ⟨#[102]⟩ ++ showS n else if k = 2 then ⟨#[98]⟩ ++ txt (quo (byt s)) else ⟨#[116]⟩ ++ txt (quo (byt s))) := by unfold showV; rw [if_neg (by rw [hr]; decide)]
    rw [hsh]
    clear hsh
    unfold vv at C1 ⊢
    rcases right_kinds hr with ⟨rfl, h⟩ | ⟨rfl, h, h2⟩ | ⟨rfl, h, h2⟩ | ⟨rfl, rfl, h⟩ | ⟨rfl, rfl, h, h2⟩
    · rw [if_pos rfl]
      have C2 := Lib.hid (fun W (hg : Gv W) => c_itoa n hn W hg)
      clear hn hr h
      go_enter Tryz.func18, Tryz.ntmps18
      go_wp2_with (first | (go_at_call 13; ((refine (C1.out _ HG.out).mono ?_); rintro e w1 ⟨rfl, hb⟩; have HB1 := Lib.hid (HB.out.trans (hb.mono HB.out.size)); have HG1 := Lib.hid (HG.out.below hb); have HBX := Lib.hid ((hb.block w.heap.size (by simp)).trans (heap_alloc_new w _)); obtain ⟨x0, x1, x2⟩ := cells3 HBX.out; clear hb)) | (go_at_call 40; ((refine (C2.out _ HG1.out).mono ?_); rintro e w2 ⟨rfl, hb⟩; have HB2 := Lib.hid (HB1.out.trans (hb.mono HB1.out.size)); clear hb)))
      go_ret
      exact ⟨rfl, HB2.out⟩
    · rw [if_neg (by decide), if_pos rfl]
      clear hn hr h
      rcases h2 with rfl | rfl
      · rw [if_neg (by decide)]
        have C2 := Lib.hid (fun W => Tryz.strconv_FormatBool false W)
        rw [show (⟨(Lib.formatBool false).toArray⟩ : ByteArray) = ⟨#[102, 97, 108, 115, 101]⟩ by decide] at C2
        go_enter Tryz.func18, Tryz.ntmps18
        go_wp2_with (first | (go_at_call 13; ((refine (C1.out _ HG.out).mono ?_); rintro e w1 ⟨rfl, hb⟩; have HB1 := Lib.hid (HB.out.trans (hb.mono HB.out.size)); have HG1 := Lib.hid (HG.out.below hb); have HBX := Lib.hid ((hb.block w.heap.size (by simp)).trans (heap_alloc_new w _)); obtain ⟨x0, x1, x2⟩ := cells3 HBX.out; clear hb)) | (go_at_call 41; ((refine (C2.out _).mono ?_); rintro e w2 ⟨rfl, rfl⟩; have HB2 := HB1)))
        go_ret
        exact ⟨rfl, HB2.out⟩
      · rw [if_pos rfl]
        have C2 := Lib.hid (fun W => Tryz.strconv_FormatBool true W)
        rw [show (⟨(Lib.formatBool true).toArray⟩ : ByteArray) = ⟨#[116, 114, 117, 101]⟩ by decide] at C2
        go_enter Tryz.func18, Tryz.ntmps18
        go_wp2_with (first | (go_at_call 13; ((refine (C1.out _ HG.out).mono ?_); rintro e w1 ⟨rfl, hb⟩; have HB1 := Lib.hid (HB.out.trans (hb.mono HB.out.size)); have HG1 := Lib.hid (HG.out.below hb); have HBX := Lib.hid ((hb.block w.heap.size (by simp)).trans (heap_alloc_new w _)); obtain ⟨x0, x1, x2⟩ := cells3 HBX.out; clear hb)) | (go_at_call 41; ((refine (C2.out _).mono ?_); rintro e w2 ⟨rfl, rfl⟩; have HB2 := HB1)))
        go_ret
        exact ⟨rfl, HB2.out⟩
    · rw [if_neg (by decide), if_neg (by decide), if_pos rfl]
      have hsz := showS_size n
      have C2 := Lib.hid (fun W (hg : Gv W) => c_show n hn _ rfl W hg.gl)
      generalize showS n = t at *
      have hl1 : ¬ 9223372036854775807 < 1 + t.size := by omega
      clear hn hr h h2 hsz
      go_enter Tryz.func18, Tryz.ntmps18
      go_wp2_with (first | (go_at_call 13; ((refine (C1.out _ HG.out).mono ?_); rintro e w1 ⟨rfl, hb⟩; have HB1 := Lib.hid (HB.out.trans (hb.mono HB.out.size)); have HG1 := Lib.hid (HG.out.below hb); have HBX := Lib.hid ((hb.block w.heap.size (by simp)).trans (heap_alloc_new w _)); obtain ⟨x0, x1, x2⟩ := cells3 HBX.out; clear hb)) | (go_at_call 42; ((refine (C2.out _ HG1.out).mono ?_); rintro e w2 ⟨rfl, hb⟩; have HB2 := Lib.hid (HB1.out.trans (hb.mono HB1.out.size)); clear hb)))
      go_ret
      exact ⟨rfl, HB2.out⟩
    · rw [if_neg (by decide), if_neg (by decide), if_neg (by decide), if_pos rfl]
      have hsz := quo_size s (by omega)
      have C2 := Lib.hid (fun W => c_quoted s (by omega) W)
      generalize txt (quo (byt s)) = t at *
      have hl1 : ¬ 9223372036854775807 < 1 + t.size := by omega
      clear hn hr h hsz
      go_enter Tryz.func18, Tryz.ntmps18
      go_wp2_with (first | (go_at_call 13; ((refine (C1.out _ HG.out).mono ?_); rintro e w1 ⟨rfl, hb⟩; have HB1 := Lib.hid (HB.out.trans (hb.mono HB.out.size)); have HG1 := Lib.hid (HG.out.below hb); have HBX := Lib.hid ((hb.block w.heap.size (by simp)).trans (heap_alloc_new w _)); obtain ⟨x0, x1, x2⟩ := cells3 HBX.out; clear hb)) | (go_at_call 43; ((refine (C2.out _).mono ?_); rintro e w2 ⟨rfl, hb⟩; have HB2 := Lib.hid (HB1.out.trans (hb.mono HB1.out.size)); clear hb)))
      go_ret
      exact ⟨rfl, HB2.out⟩
    · rw [if_neg (by decide), if_neg (by decide), if_neg (by decide), if_neg (by decide)]
      have hsz := quo_size s (by omega)
      have C2 := Lib.hid (fun W => c_quoted s (by omega) W)
      generalize txt (quo (byt s)) = t at *
      have hl1 : ¬ 9223372036854775807 < 1 + t.size := by omega
      clear hn hr h hsz
      go_enter Tryz.func18, Tryz.ntmps18
      go_wp2_with (first | (go_at_call 13; ((refine (C1.out _ HG.out).mono ?_); rintro e w1 ⟨rfl, hb⟩; have HB1 := Lib.hid (HB.out.trans (hb.mono HB.out.size)); have HG1 := Lib.hid (HG.out.below hb); have HBX := Lib.hid ((hb.block w.heap.size (by simp)).trans (heap_alloc_new w _)); obtain ⟨x0, x1, x2⟩ := cells3 HBX.out; clear hb)) | (go_at_call 43; ((refine (C2.out _).mono ?_); rintro e w2 ⟨rfl, hb⟩; have HB2 := Lib.hid (HB1.out.trans (hb.mono HB1.out.size)); clear hb)))
      go_ret
      exact ⟨rfl, HB2.out⟩
set_option maxHeartbeats 4000000 in
set_option maxRecDepth 100000 in
theorem c_rvshow (k n : Int) (s : ByteArray) (hn : Wf n) (hs : s.size ≤ 140737488351232) (w : World) :
    Calls Tryz.prog 19 #[vv k n s] w fun e w' => e = .returned (.string (showV k n s)) ∧ Below w.heap.size w w' := by
  have hbx := (Below.refl w.heap.size w).alloc (Nat.le_refl _) (.cells #[.int .i64 k, .int .i64 n, .string s] 23)
  have HB := Lib.hid hbx
  clear hbx
  cases hr : rightV k n s with
  | false =>
    rw [show showV k n s = ⟨#[63]⟩ by unfold showV; rw [if_pos hr]]
    have C1 := Lib.hid (fun W => c_rvright k n s hn hs false hr W)
    unfold vv at C1 ⊢
    clear hr
    go_enter Tryz.func19, Tryz.ntmps19
    go_wp2_with (go_at_call 14; ((refine (C1.out _).mono ?_); rintro e w' ⟨rfl, hb⟩; have HB2 := Lib.hid (HB.out.trans (hb.mono HB.out.size)); clear hb))
    go_ret
    exact ⟨rfl, HB2.out⟩
  | true =>
    have C1 := Lib.hid (fun W => c_rvright k n s hn hs true hr W)
    have hsh : showV k n s = (if k = 1 then ⟨(Lib.itoa n).toArray⟩ else if k = 4 then (if n = 1 then ⟨#[116, 114, 117, 101]⟩ else ⟨#[102, 97, 108, 115, 101]⟩) else if k = 5 then ⟨#[102]⟩ ++ showS n else if k = 2 then ⟨#[98]⟩ ++ txt (quo (byt s)) else ⟨#[116]⟩ ++ txt (quo (byt s))) := by unfold showV; rw [if_neg (by rw [hr]; decide)]
    rw [hsh]
    clear hsh
    unfold vv at C1 ⊢
    rcases right_kinds hr with ⟨rfl, h⟩ | ⟨rfl, h, h2⟩ | ⟨rfl, h, h2⟩ | ⟨rfl, rfl, h⟩ | ⟨rfl, rfl, h, h2⟩
    · rw [if_pos rfl]
      have C2 := Lib.hid (fun W => c_decimal n hn W)
      clear hn hr h
      go_enter Tryz.func19, Tryz.ntmps19
      go_wp2_with (first | (go_at_call 14; ((refine (C1.out _).mono ?_); rintro e w1 ⟨rfl, hb⟩; have HB1 := Lib.hid (HB.out.trans (hb.mono HB.out.size)); have HBX := Lib.hid ((hb.block w.heap.size (by simp)).trans (heap_alloc_new w _)); obtain ⟨x0, x1, x2⟩ := cells3 HBX.out; clear hb)) | (go_at_call 44; ((refine (C2.out _).mono ?_); rintro e w2 ⟨rfl, hb⟩; have HB2 := Lib.hid (HB1.out.trans (hb.mono HB1.out.size)); clear hb)))
      go_ret
      exact ⟨rfl, HB2.out⟩
    · rw [if_neg (by decide), if_pos rfl]
      clear hn hr h
      rcases h2 with rfl | rfl
      · rw [if_neg (by decide)]
        go_enter Tryz.func19, Tryz.ntmps19
        go_wp2_with (first | (go_at_call 14; ((refine (C1.out _).mono ?_); rintro e w1 ⟨rfl, hb⟩; have HB1 := Lib.hid (HB.out.trans (hb.mono HB.out.size)); have HBX := Lib.hid ((hb.block w.heap.size (by simp)).trans (heap_alloc_new w _)); obtain ⟨x0, x1, x2⟩ := cells3 HBX.out; clear hb)))
        go_ret
        exact ⟨rfl, HB1.out⟩
      · rw [if_pos rfl]
        go_enter Tryz.func19, Tryz.ntmps19
        go_wp2_with (first | (go_at_call 14; ((refine (C1.out _).mono ?_); rintro e w1 ⟨rfl, hb⟩; have HB1 := Lib.hid (HB.out.trans (hb.mono HB.out.size)); have HBX := Lib.hid ((hb.block w.heap.size (by simp)).trans (heap_alloc_new w _)); obtain ⟨x0, x1, x2⟩ := cells3 HBX.out; clear hb)))
        go_ret
        exact ⟨rfl, HB1.out⟩
    · rw [if_neg (by decide), if_neg (by decide), if_pos rfl]
      have hsz := showS_size n
      have C2 := Lib.hid (fun W => c_rshow n hn _ rfl W)
      generalize showS n = t at *
      have hl1 : ¬ 9223372036854775807 < 1 + t.size := by omega
      clear hn hr h h2 hsz
      go_enter Tryz.func19, Tryz.ntmps19
      go_wp2_with (first | (go_at_call 14; ((refine (C1.out _).mono ?_); rintro e w1 ⟨rfl, hb⟩; have HB1 := Lib.hid (HB.out.trans (hb.mono HB.out.size)); have HBX := Lib.hid ((hb.block w.heap.size (by simp)).trans (heap_alloc_new w _)); obtain ⟨x0, x1, x2⟩ := cells3 HBX.out; clear hb)) | (go_at_call 45; ((refine (C2.out _).mono ?_); rintro e w2 ⟨rfl, hb⟩; have HB2 := Lib.hid (HB1.out.trans (hb.mono HB1.out.size)); clear hb)))
      go_ret
      exact ⟨rfl, HB2.out⟩
    · rw [if_neg (by decide), if_neg (by decide), if_neg (by decide), if_pos rfl]
      have hsz := quo_size s (by omega)
      have C2 := Lib.hid (fun W => c_rquoted s (by omega) W)
      generalize txt (quo (byt s)) = t at *
      have hl1 : ¬ 9223372036854775807 < 1 + t.size := by omega
      clear hn hr h hsz
      go_enter Tryz.func19, Tryz.ntmps19
      go_wp2_with (first | (go_at_call 14; ((refine (C1.out _).mono ?_); rintro e w1 ⟨rfl, hb⟩; have HB1 := Lib.hid (HB.out.trans (hb.mono HB.out.size)); have HBX := Lib.hid ((hb.block w.heap.size (by simp)).trans (heap_alloc_new w _)); obtain ⟨x0, x1, x2⟩ := cells3 HBX.out; clear hb)) | (go_at_call 46; ((refine (C2.out _).mono ?_); rintro e w2 ⟨rfl, hb⟩; have HB2 := Lib.hid (HB1.out.trans (hb.mono HB1.out.size)); clear hb)))
      go_ret
      exact ⟨rfl, HB2.out⟩
    · rw [if_neg (by decide), if_neg (by decide), if_neg (by decide), if_neg (by decide)]
      have hsz := quo_size s (by omega)
      have C2 := Lib.hid (fun W => c_rquoted s (by omega) W)
      generalize txt (quo (byt s)) = t at *
      have hl1 : ¬ 9223372036854775807 < 1 + t.size := by omega
      clear hn hr h hsz
      go_enter Tryz.func19, Tryz.ntmps19
      go_wp2_with (first | (go_at_call 14; ((refine (C1.out _).mono ?_); rintro e w1 ⟨rfl, hb⟩; have HB1 := Lib.hid (HB.out.trans (hb.mono HB.out.size)); have HBX := Lib.hid ((hb.block w.heap.size (by simp)).trans (heap_alloc_new w _)); obtain ⟨x0, x1, x2⟩ := cells3 HBX.out; clear hb)) | (go_at_call 46; ((refine (C2.out _).mono ?_); rintro e w2 ⟨rfl, hb⟩; have HB2 := Lib.hid (HB1.out.trans (hb.mono HB1.out.size)); clear hb)))
      go_ret
      exact ⟨rfl, HB2.out⟩
end Go.Proofs.YtikpmlginojnhaaGreatDoor.Fl
