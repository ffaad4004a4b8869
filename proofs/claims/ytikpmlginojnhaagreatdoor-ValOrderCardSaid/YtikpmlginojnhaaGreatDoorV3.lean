/- Values: their order. -/
import Derived.Test.YtikpmlginojnhaaGreatDoorV2
namespace Go.Proofs.YtikpmlginojnhaaGreatDoor.Fl
open Go.RowKit Go.Maps
set_option linter.unusedVariables false
set_option linter.unusedSimpArgs false
/-- Texts' order. -/
def cmpB (a b : ByteArray) : Int := Lib.compareBytes a.data.toList b.data.toList
def or3 (x y z : Int) : Int := if x = 0 then (if y = 0 then z else y) else x
def nOrd (k n m : Int) : Int := if k = 5 then sgn (rankU (U n)) (rankU (U m)) else sgn n m
/-- Values' order. -/
def ordV (ka na : Int) (sa : ByteArray) (kb nb : Int) (sb : ByteArray) : Int := or3 (sgn ka kb) (nOrd ka na nb) (cmpB sa sb)
theorem c_rcmp (x y : Int) (w : World) : Calls Tryz.prog 37 #[.int .i64 x, .int .i64 y] w fun e w' => e = .returned (.int .i64 (sgn x y)) ∧ w = w' := by
  unfold sgn
  by_cases h1 : x < y
  · rw [if_pos h1]
    have hd : decide (x < y) = true := decide_eq_true h1
    clear h1
    go_enter Tryz.func37, Tryz.ntmps37
    go_wp2
    go_ret
    exact ⟨rfl, rfl⟩
  · rw [if_neg h1]
    have hd : decide (x < y) = false := decide_eq_false h1
    by_cases h2 : y < x
    · rw [if_pos h2]
      have hd2 : decide (y < x) = true := decide_eq_true h2
      clear h1 h2
      go_enter Tryz.func37, Tryz.ntmps37
      go_wp2
      go_ret
      exact ⟨rfl, rfl⟩
    · rw [if_neg h2]
      have hd2 : decide (y < x) = false := decide_eq_false h2
      clear h1 h2
      go_enter Tryz.func37, Tryz.ntmps37
      go_wp2
      go_ret
      exact ⟨rfl, rfl⟩
theorem c_cmp (x y : Int) (w : World) : Calls Tryz.prog 33 #[.int .i64 x, .int .i64 y] w fun e w' => e = .returned (.int .i64 (sgn x y)) ∧ w = w' :=
  (Tryz.cmp_Compare_int x y w).mono fun e w' h => ⟨h.1, h.2.symm⟩
theorem c_cmps (a b : ByteArray) (w : World) : Calls Tryz.prog 36 #[.string a, .string b] w fun e w' => e = .returned (.int .i64 (cmpB a b)) ∧ w = w' :=
  (Tryz.strings_Compare a b w).mono fun e w' h => ⟨h.1, h.2.symm⟩
theorem cells3 {W : World} {B : Nat} {e : TypeId} {a0 a1 a2 : Value} (h : W.heap[B]? = some (.cells #[a0, a1, a2] e (0, 0))) : W.cell? ⟨B, 0, none⟩ = some a0 ∧ W.cell? ⟨B, 1, none⟩ = some a1 ∧ W.cell? ⟨B, 2, none⟩ = some a2 := by
  simp [World.cell?, h]
set_option maxHeartbeats 4000000 in
set_option maxRecDepth 100000 in
theorem c_or (x y z : Int) (B : Nat) (w : World) (h : w.heap[B]? = some (.cells #[.int .i64 x, .int .i64 y, .int .i64 z] 3 (0, 0))) : Calls Tryz.prog 35 #[.slice (some ⟨B, 0, none⟩) 3 3] w fun e w' => e = .returned (.int .i64 (or3 x y z)) ∧ Below w.heap.size w w' := by
  obtain ⟨r, hr⟩ : ∃ r, or3 x y z = r := ⟨_, rfl⟩
  rw [hr]
  unfold or3 at hr
  have HR := Lib.hid hr
  clear hr
  obtain ⟨x0, x1, x2⟩ := cells3 h
  have HX := Lib.hid (And.intro x0 (And.intro x1 x2))
  clear h x0 x1 x2
  go_enter Tryz.func35, Tryz.ntmps35
  go_wp2
  go_loopw [8] (fun v8 W => ∃ k : Nat, v8 = .int .i64 k ∧ k ≤ 3 ∧ Hid (1 ≤ k → x = 0) ∧ Hid (2 ≤ k → y = 0) ∧ Hid (3 ≤ k → z = 0) ∧ ∃ n, W = w.drewN n) (fun v8 _ => (3 - intOf v8).toNat)
  case atStart => exact ⟨0, rfl, by omega, Lib.hid (fun h => by omega), Lib.hid (fun h => by omega), Lib.hid (fun h => by omega), 0, rfl⟩
  case round =>
    obtain ⟨k, rfl, hk, H1, H2, H3, n, rfl⟩ := hrel
    obtain ⟨x0, x1, x2⟩ := HX.out
    obtain rfl | rfl | rfl | rfl : k = 0 ∨ k = 1 ∨ k = 2 ∨ k = 3 := by omega
    · cases hq : (x != 0) with
      | true =>
        have HZ := Lib.hid (show ¬ x = 0 by simpa using hq)
        go_wp2
        go_ret
        have hz := HZ.out
        have hr := HR.out
        rw [if_neg hz] at hr
        subst hr
        exact ⟨rfl, below_drewN _ _⟩
      | false =>
        have hz : x = 0 := by simpa using hq
        have HZ := Lib.hid hz
        clear hz
        go_wp2
        go_roundw
        case rel => exact ⟨1, by go_num, by omega, Lib.hid (fun h => HZ.out), Lib.hid (fun h => by omega), Lib.hid (fun h => by omega), n, rfl⟩
        case measure => simp [intOf]
    · cases hq : (y != 0) with
      | true =>
        have HZ := Lib.hid (show ¬ y = 0 by simpa using hq)
        go_wp2
        go_ret
        have hz := HZ.out
        have hr := HR.out
        rw [if_pos (H1.out (by omega)), if_neg hz] at hr
        subst hr
        exact ⟨rfl, below_drewN _ _⟩
      | false =>
        have hz : y = 0 := by simpa using hq
        have HZ := Lib.hid hz
        clear hz
        go_wp2
        go_roundw
        case rel => exact ⟨2, by go_num, by omega, Lib.hid (fun h => H1.out (by omega)), Lib.hid (fun h => HZ.out), Lib.hid (fun h => by omega), n, rfl⟩
        case measure => simp [intOf]
    · cases hq : (z != 0) with
      | true =>
        have HZ := Lib.hid (show ¬ z = 0 by simpa using hq)
        go_wp2
        go_ret
        have hz := HZ.out
        have hr := HR.out
        rw [if_pos (H1.out (by omega)), if_pos (H2.out (by omega))] at hr
        subst hr
        exact ⟨rfl, below_drewN _ _⟩
      | false =>
        have hz : z = 0 := by simpa using hq
        have HZ := Lib.hid hz
        clear hz
        go_wp2
        go_roundw
        case rel => exact ⟨3, by go_num, by omega, Lib.hid (fun h => H1.out (by omega)), Lib.hid (fun h => H2.out (by omega)), Lib.hid (fun h => HZ.out), n, rfl⟩
        case measure => simp [intOf]
    · go_wp2
      go_ret
      have hx := H1.out (by omega)
      have hy := H2.out (by omega)
      have hz := H3.out (by omega)
      have hr := HR.out
      rw [if_pos hx, if_pos hy, hz] at hr
      subst hr
      exact ⟨rfl, below_drewN _ _⟩
theorem cmpB_at (a b : ByteArray) (i : Nat) : Lib.compareBytes (a.data.toList.drop i) (b.data.toList.drop i) = if i < a.size ∧ i < b.size then (if (byt a).getD i 0 < (byt b).getD i 0 then -1 else if (byt b).getD i 0 < (byt a).getD i 0 then 1 else Lib.compareBytes (a.data.toList.drop (i + 1)) (b.data.toList.drop (i + 1))) else if i < b.size then -1 else if i < a.size then 1 else 0 := by
  have ha : a.data.toList.length = a.size := by rw [Array.length_toList]; rfl
  have hb : b.data.toList.length = b.size := by rw [Array.length_toList]; rfl
  have ea := drop_at a i 0
  have eb := drop_at b i 0
  rw [Nat.add_zero] at ea eb
  rw [← List.drop_drop, ← List.drop_drop, ← ea, ← eb]
  have la := List.length_drop (i := i) (l := a.data.toList)
  have lb := List.length_drop (i := i) (l := b.data.toList)
  rw [ha] at la
  rw [hb] at lb
  cases ca : a.data.toList.drop i with
  | nil =>
    rw [ca] at la
    simp at la
    cases cb : b.data.toList.drop i with
    | nil =>
      rw [cb] at lb
      simp at lb
      rw [if_neg (by omega), if_neg (by omega), if_neg (by omega)]
      rfl
    | cons y t =>
      rw [cb] at lb
      simp at lb
      rw [if_neg (by omega), if_pos (by omega)]
      rfl
  | cons x u =>
    rw [ca] at la
    simp at la
    cases cb : b.data.toList.drop i with
    | nil =>
      rw [cb] at lb
      simp at lb
      rw [if_neg (by omega), if_neg (by omega), if_pos (by omega)]
      rfl
    | cons y t =>
      rw [cb] at lb
      simp at lb
      rw [if_pos (by omega)]
      show (if x < y then -1 else if y < x then 1 else Lib.compareBytes u t) = if ((x.toNat : Nat) : Int) < ((y.toNat : Nat) : Int) then -1 else if ((y.toNat : Nat) : Int) < ((x.toNat : Nat) : Int) then 1 else Lib.compareBytes u t
      simp only [UInt8.lt_iff_toNat_lt, Int.ofNat_lt]
set_option maxHeartbeats 4000000 in
set_option maxRecDepth 100000 in
theorem c_texts (a b : ByteArray) (ha : a.size ≤ 140737488351232) (hb : b.size ≤ 140737488351232) (w : World) : Calls Tryz.prog 39 #[.string a, .string b] w fun e w' => e = .returned (.int .i64 (cmpB a b)) ∧ Below w.heap.size w w' := by
  obtain ⟨r, hr⟩ : ∃ r, cmpB a b = r := ⟨_, rfl⟩
  have HR := Lib.hid hr
  rw [hr]
  clear hr
  go_enter Tryz.func39, Tryz.ntmps39
  go_wp2
  go_loopw [5] (fun v5 W => ∃ i : Nat, v5 = .int .i64 i ∧ i ≤ a.size ∧ i ≤ b.size ∧ Hid (Lib.compareBytes (a.data.toList.drop i) (b.data.toList.drop i) = r) ∧ Hid (Below w.heap.size w W)) (fun v5 _ => (a.size - intOf v5).toNat)
  case atStart => exact ⟨0, rfl, by omega, by omega, Lib.hid HR.out, Lib.hid (Below.refl _ _)⟩
  case round =>
    obtain ⟨i, rfl, h1, h2, HI, HW⟩ := hrel
    have HC := Lib.hid (cmpB_at a b i)
    by_cases g1 : i < a.size
    · have t1 : decide ((i : Int) < (a.size : Int)) = true := decide_eq_true (by omega)
      by_cases g2 : i < b.size
      · have t2 : decide ((i : Int) < (b.size : Int)) = true := decide_eq_true (by omega)
        have x0 := str_at a i g1
        have x1 := str_at b i g2
        have hc := HC.out
        rw [HI.out, if_pos ⟨g1, g2⟩] at hc
        generalize (byt a).getD i 0 = p at x0 hc
        generalize (byt b).getD i 0 = q at x1 hc
        by_cases g3 : p < q
        · have t3 : (p != q) = true := by simp; omega
          have t4 : decide (p < q) = true := decide_eq_true g3
          rw [if_pos g3] at hc
          subst hc
          clear g3
          go_wp2
          go_quiet (fail)
          go_wp2
          go_quiet (fail)
          go_wp2
          go_ret
          exact ⟨rfl, below_dr (below_dr HW.out _) _⟩
        · by_cases g4 : q < p
          · have t3 : (p != q) = true := by simp; omega
            have t4 : decide (p < q) = false := decide_eq_false g3
            rw [if_neg g3, if_pos g4] at hc
            subst hc
            clear g3 g4
            go_wp2
            go_quiet (fail)
            go_wp2
            go_quiet (fail)
            go_wp2
            go_ret
            exact ⟨rfl, below_dr (below_dr HW.out _) _⟩
          · have t3 : (p != q) = false := by simp; omega
            rw [if_neg g3, if_neg g4] at hc
            have HC2 := Lib.hid hc.symm
            clear g3 g4 hc
            go_wp2
            go_quiet (fail)
            go_wp2
            go_roundw
            case rel => exact ⟨i + 1, by go_num, by omega, by omega, HC2, Lib.hid (below_dr HW.out _)⟩
            case measure => simp [intOf]; omega
      · have t2 : decide ((i : Int) < (b.size : Int)) = false := decide_eq_false (by omega)
        have hc := HC.out
        rw [HI.out, if_neg (by omega), if_neg g2, if_pos g1] at hc
        subst hc
        have t3 : decide (a.size < b.size) = false := decide_eq_false (by omega)
        have t4 : decide (b.size < a.size) = true := decide_eq_true (by omega)
        clear t1 HC
        go_wp2
        go_ret
        exact ⟨rfl, HW.out⟩
    · have t1 : decide ((i : Int) < (a.size : Int)) = false := decide_eq_false (by omega)
      have hc := HC.out
      rw [HI.out, if_neg (by omega)] at hc
      by_cases g2 : i < b.size
      · rw [if_pos g2] at hc
        subst hc
        have t3 : decide (a.size < b.size) = true := decide_eq_true (by omega)
        clear t1 HC
        go_wp2
        go_ret
        exact ⟨rfl, HW.out⟩
      · rw [if_neg g2, if_neg g1] at hc
        subst hc
        have t3 : decide (a.size < b.size) = false := decide_eq_false (by omega)
        have t4 : decide (b.size < a.size) = false := decide_eq_false (by omega)
        clear t1 HC
        go_wp2
        go_ret
        exact ⟨rfl, HW.out⟩
end Go.Proofs.YtikpmlginojnhaaGreatDoor.Fl
