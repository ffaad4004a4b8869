/- Values: kinds, numbers, texts; what the library's variables hold; Right. -/
import Derived.Test.YtikpmlginojnhaaGreatDoorFF
import Derived.Lib.SmallJoins
namespace Go.Proofs.YtikpmlginojnhaaGreatDoor.Fl
open Go.RowKit Go.Maps
set_option linter.unusedVariables false
set_option linter.unusedSimpArgs false
/-- What is read of the library's variables. -/
structure Gv (w : World) : Prop where
  gl : Gl w
  p10 : Lib.TabIs Tryz.prog w "internal/strconv.uint64pow10" .u64 Lib.pow10Tab
  u8 : Lib.Utf8Tabs 0 1 w
  ml : ∃ m, w.cell? ⟨2, 0, none⟩ = some (.int .i64 m)
theorem Gv.below {w w' : World} (h : Gv w) (hb : Below w.heap.size w w') : Gv w' := by
  refine ⟨h.gl.below hb, Joins.tab_stays (g := 3) (by kernel_rfl) h.p10 hb (Nat.le_refl _), Utf8Tabs_below h.u8 hb, ?_⟩
  obtain ⟨m, hm⟩ := h.ml
  exact ⟨m, (hb.cell (World.block_lt_of_cell? w _ hm)).trans hm⟩
/-- A value. -/
def vv (k n : Int) (s : ByteArray) : Value := .agg #[.int .i64 k, .int .i64 n, .string s]
/-- Is a value right? -/
def rightV (k n : Int) (s : ByteArray) : Bool :=
  if k = 1 then s.toList.isEmpty else if k = 4 then (s.toList.isEmpty) && (n == 0 || n == 1) else if k = 5 then (s.toList.isEmpty) && rightU (U n)
  else if k = 2 then (n == 0) && decide (s.size ≤ 32) else if k = 3 then (n == 0) && decide (s.size ≤ 32) && Lib.validD s.data.toList else false
theorem kinds (k : Int) : k = 1 ∨ k = 4 ∨ k = 5 ∨ k = 2 ∨ k = 3 ∨ (¬ k = 1 ∧ ¬ k = 4 ∧ ¬ k = 5 ∧ ¬ k = 2 ∧ ¬ k = 3) := by omega
theorem b_one (n : Int) (hn : Wf n) : (bits .andNot .i64 n 1 == 0) = (n == 0 || n == 1) := by
  unfold bits
  rw [Bool.eq_iff_iff, Bool.or_eq_true, beq_iff_eq, beq_iff_eq, beq_iff_eq]
  show IntKind.i64.wrap ((BitVec.ofInt 64 n &&& ~~~ BitVec.ofInt 64 1).toNat : Int) = 0 ↔ _
  have e : ~~~ BitVec.ofInt 64 1 = BitVec.ofNat 64 (2 ^ 64 - 2) := by decide
  obtain ⟨v, hv⟩ : ∃ v : BitVec 64, BitVec.ofInt 64 n = v := ⟨_, rfl⟩
  have hn2 : (v.toNat : Int) = n % 18446744073709551616 := by
    rw [← hv, BitVec.toNat_ofInt]
    omega
  rw [hv, e, BitVec.toNat_and, BitVec.toNat_ofNat, IntKind.wrap_i64]
  have e2 : (2 ^ 64 - 2) % 2 ^ 64 = 18446744073709551614 := by decide
  rw [e2]
  have hlt : v.toNat < 18446744073709551616 := v.isLt
  have h1 : (v.toNat &&& 18446744073709551614) / 2 ^ 1 = v.toNat / 2 ^ 1 &&& 18446744073709551614 / 2 ^ 1 := Nat.and_div_two_pow ..
  have h2 : v.toNat / 2 ^ 1 &&& 18446744073709551614 / 2 ^ 1 = v.toNat / 2 := by
    rw [show 18446744073709551614 / 2 ^ 1 = 2 ^ 63 - 1 by decide, Nat.and_two_pow_sub_one_eq_mod]
    omega
  rw [h2] at h1
  have h3 : v.toNat &&& 18446744073709551614 ≤ 18446744073709551614 := Nat.and_le_right
  have h4 : (v.toNat &&& 18446744073709551614) % 2 = 0 := by
    have h5 : (v.toNat &&& 18446744073709551614) % 2 ^ 1 = v.toNat % 2 ^ 1 &&& 18446744073709551614 % 2 ^ 1 := Nat.and_mod_two_pow ..
    rw [show 18446744073709551614 % 2 ^ 1 = 0 by decide, Nat.and_zero] at h5
    omega
  unfold Wf at hn
  generalize v.toNat &&& 18446744073709551614 = q at *
  omega
theorem c_valid (s : ByteArray) (w : World) (hs : s.size ≤ 9223372036854775807) (hT : Lib.Utf8Tabs 0 1 w) : Calls Tryz.prog 30 #[.string s] w fun e w' => e = .returned (.bool (Lib.validD s.data.toList)) ∧ Below w.heap.size w w' := Tryz.utf8_ValidString s w hs hT
set_option maxHeartbeats 4000000 in
set_option maxRecDepth 100000 in
theorem c_vright (k n : Int) (s : ByteArray) (hn : Wf n) (hs : s.size ≤ 9223372036854775807) (b : Bool) (hb : rightV k n s = b) (w : World) (hg : Gv w) :
    Calls Tryz.prog 13 #[vv k n s] w fun e w' => e = .returned (.bool b) ∧ Below w.heap.size w w' := by
  unfold rightV at hb
  unfold vv
  have HB := Lib.hid ((Below.refl w.heap.size w).alloc (Nat.le_refl _) (.cells #[.int .i64 k, .int .i64 n, .string s] 23))
  have HG := Lib.hid hg
  clear hg
  rcases kinds k with rfl | rfl | rfl | rfl | rfl | ⟨h1, h2, h3, h4, h5⟩
  · rw [if_pos rfl] at hb
    go_enter Tryz.func13, Tryz.ntmps13
    go_wp2
    go_ret
    exact ⟨rfl, HB.out⟩
  · rw [if_neg (by decide), if_pos rfl, ← b_one n hn] at hb
    cases he : s.toList.isEmpty with
    | true =>
      rw [he, Bool.true_and] at hb
      subst hb
      go_enter Tryz.func13, Tryz.ntmps13
      go_wp2
      go_ret
      exact ⟨rfl, HB.out⟩
    | false =>
      rw [he, Bool.false_and] at hb
      subst hb
      go_enter Tryz.func13, Tryz.ntmps13
      go_wp2
      go_ret
      exact ⟨rfl, HB.out⟩
  · rw [if_neg (by decide), if_neg (by decide), if_pos rfl] at hb
    have C1 := Lib.hid (c_right n _ rfl)
    cases he : s.toList.isEmpty with
    | true =>
      rw [he, Bool.true_and] at hb
      rw [hb] at C1
      go_enter Tryz.func13, Tryz.ntmps13
      go_wp2_with (go_at_call 29; ((with_reducible refine (C1.out _).mono ?_); rintro e w' ⟨rfl, rfl⟩))
      go_ret
      exact ⟨rfl, HB.out⟩
    | false =>
      rw [he, Bool.false_and] at hb
      subst hb
      clear C1
      go_enter Tryz.func13, Tryz.ntmps13
      go_wp2
      go_ret
      exact ⟨rfl, HB.out⟩
  · rw [if_neg (by decide), if_neg (by decide), if_neg (by decide), if_pos rfl] at hb
    cases hz : (n == 0) with
    | true =>
      rw [hz, Bool.true_and] at hb
      have hd : decide ((s.size : Int) ≤ 32) = b := by rw [← hb]; simp; omega
      cases b with
      | true =>
        go_enter Tryz.func13, Tryz.ntmps13
        go_wp2
        go_ret
        exact ⟨rfl, HB.out⟩
      | false =>
        go_enter Tryz.func13, Tryz.ntmps13
        go_wp2
        go_ret
        exact ⟨rfl, HB.out⟩
    | false =>
      rw [hz, Bool.false_and] at hb
      subst hb
      go_enter Tryz.func13, Tryz.ntmps13
      go_wp2
      go_ret
      exact ⟨rfl, HB.out⟩
  · rw [if_neg (by decide), if_neg (by decide), if_neg (by decide), if_neg (by decide), if_pos rfl] at hb
    cases hz : (n == 0) with
    | true =>
      rw [hz, Bool.true_and] at hb
      by_cases h32 : s.size ≤ 32
      · rw [decide_eq_true h32, Bool.true_and] at hb
        have hd : decide ((s.size : Int) ≤ 32) = true := by simp; omega
        have C1 := Lib.hid (fun W => c_valid s W hs)
        rw [hb] at C1
        have HG2 := Lib.hid (HG.out.below HB.out)
        go_enter Tryz.func13, Tryz.ntmps13
        go_wp2_with (go_at_call 30; ((with_reducible refine (C1.out _ HG2.out.u8).mono ?_); rintro e w' ⟨rfl, hb⟩; have HB2 := Lib.hid (HB.out.trans (hb.mono HB.out.size)); clear hb))
        go_ret
        exact ⟨rfl, HB2.out⟩
      · rw [decide_eq_false h32, Bool.false_and] at hb
        subst hb
        have hd : decide ((s.size : Int) ≤ 32) = false := by simp; omega
        go_enter Tryz.func13, Tryz.ntmps13
        go_wp2
        go_ret
        exact ⟨rfl, HB.out⟩
    | false =>
      rw [hz, Bool.false_and, Bool.false_and] at hb
      subst hb
      go_enter Tryz.func13, Tryz.ntmps13
      go_wp2
      go_ret
      exact ⟨rfl, HB.out⟩
  · rw [if_neg h1, if_neg h2, if_neg h3, if_neg h4, if_neg h5] at hb
    subst hb
    have q1 : (k == 1) = false := by simp [h1]
    have q2 : (k == 4) = false := by simp [h2]
    have q3 : (k == 5) = false := by simp [h3]
    have q4 : (k == 2) = false := by simp [h4]
    have q5 : (k == 3) = false := by simp [h5]
    clear h1 h2 h3 h4 h5
    go_enter Tryz.func13, Tryz.ntmps13
    go_wp2
    go_ret
    exact ⟨rfl, HB.out⟩
end Go.Proofs.YtikpmlginojnhaaGreatDoor.Fl
