/- Floating numbers: the bits of eight bytes. -/
import Derived.Test.YtikpmlginojnhaaGreatDoorF5
namespace Go.Proofs.YtikpmlginojnhaaGreatDoor.Fl
open Go.RowKit Go.Maps
set_option linter.unusedVariables false
set_option linter.unusedSimpArgs false
def Byts (l : List Int) : Prop := ∀ x ∈ l, 0 ≤ x ∧ x < 256
/-- The number of bytes, the highest first. -/
def val (l : List Int) : Int := l.foldl (fun a x => a * 256 + x) 0
theorem val_snoc (l : List Int) (x : Int) : val (l ++ [x]) = val l * 256 + x := by simp [val]
theorem val_acc : ∀ (l : List Int) (a : Int), l.foldl (fun a x => a * 256 + x) a = a * 256 ^ l.length + val l
  | [], a => by simp [val]
  | x :: t, a => by
    have e1 := val_acc t (a * 256 + x)
    have e2 := val_acc t (0 * 256 + x)
    have e3 : val (x :: t) = t.foldl (fun a x => a * 256 + x) (0 * 256 + x) := rfl
    rw [List.foldl_cons, e1, e3, e2, List.length_cons, Int.pow_succ, Int.add_mul, Int.add_mul, Int.mul_assoc, Int.mul_comm 256 (256 ^ t.length)]
    omega
theorem val_cons (x : Int) (t : List Int) : val (x :: t) = x * 256 ^ t.length + val t := by
  have := val_acc t x
  rw [← this]
  show t.foldl (fun a x => a * 256 + x) (0 * 256 + x) = _
  congr 1
  omega
theorem val_bd : ∀ (l : List Int), Byts l → 0 ≤ val l ∧ val l < 256 ^ l.length
  | [], _ => by simp [val]
  | x :: t, h => by
    have h1 := val_bd t (fun y hy => h y (by simp [hy]))
    have h2 := h x (by simp)
    rw [val_cons, List.length_cons, Int.pow_succ]
    have hp : (0 : Int) < 256 ^ t.length := Int.pow_pos (by decide)
    generalize (256 : Int) ^ t.length = p at *
    have h3 : x * p ≤ 255 * p := Int.mul_le_mul_of_nonneg_right (by omega) (by omega)
    have h4 : 0 ≤ x * p := Int.mul_nonneg (by omega) (by omega)
    omega
theorem take_snoc (l : List Int) (k : Nat) (h : k < l.length) : l.take (k + 1) = l.take k ++ [l.getD k 0] := by
  rw [List.take_succ_eq_append_getElem h, List.getD_eq_getElem?_getD, List.getElem?_eq_getElem h]
  rfl
theorem byts_take {l : List Int} (h : Byts l) (k : Nat) : Byts (l.take k) := fun x hx => h x (List.mem_of_mem_take hx)
theorem byts_at {l : List Int} (h : Byts l) (k : Nat) (hk : k < l.length) : 0 ≤ l.getD k 0 ∧ l.getD k 0 < 256 := by
  rw [List.getD_eq_getElem?_getD, List.getElem?_eq_getElem hk]
  exact h _ (List.getElem_mem hk)
theorem val_take_bd {l : List Int} (h : Byts l) (k : Nat) (hk : k ≤ 7) (hl : l.length = 8) : 0 ≤ val (l.take k) ∧ val (l.take k) < 72057594037927936 := by
  have h1 := val_bd _ (byts_take h k)
  rw [List.length_take, hl, show min k 8 = k by omega] at h1
  have h2 : (256 : Int) ^ k ≤ 256 ^ 7 := by
    have h : ∀ k : Fin 8, (256 : Int) ^ k.val ≤ 256 ^ 7 := by decide
    exact h ⟨k, by omega⟩
  have h3 : (256 : Int) ^ 7 = 72057594037927936 := by decide
  omega
theorem val8_bd {l : List Int} (h : Byts l) (hl : l.length = 8) : 0 ≤ val l ∧ val l < 18446744073709551616 := by
  have h1 := val_bd _ h
  rw [hl] at h1
  have h3 : (256 : Int) ^ 8 = 18446744073709551616 := by decide
  omega
theorem val_head {l : List Int} (h : Byts l) (hl : l.length = 8) : (128 ≤ l.getD 0 0 ↔ 9223372036854775808 ≤ val l) := by
  obtain ⟨x, t, rfl⟩ : ∃ x t, l = x :: t := by
    cases l with
    | nil => simp at hl
    | cons x t => exact ⟨x, t, rfl⟩
  have h1 := val_cons x t
  have ht : t.length = 7 := by simpa using hl
  have h2 := val_bd t (fun y hy => h y (by simp [hy]))
  have h3 := h x (by simp)
  rw [ht] at h1 h2
  have h4 : (256 : Int) ^ 7 = 72057594037927936 := by decide
  rw [h4] at h1 h2
  rw [h1]
  simp only [List.getD_cons_zero]
  omega
def unrankU (r : Int) : Int := if 9223372036854775808 ≤ r then r - 9223372036854775808 else 18446744073709551615 - r
/-- The bits of eight bytes, if right. -/
def fromF (l : List Int) : Int × Bool := if l.length = 8 ∧ rightU (unrankU (val l)) = true then (wrap64 (unrankU (val l)), true) else (0, false)
theorem unrankU_bd {r : Int} (h : 0 ≤ r ∧ r < 18446744073709551616) : 0 ≤ unrankU r ∧ unrankU r < 18446744073709551616 := by
  unfold unrankU
  split <;> omega
theorem U_wrap {u : Int} (h : 0 ≤ u ∧ u < 18446744073709551616) : U (wrap64 u) = u := by
  unfold U wrap64
  omega
theorem or_byte (r x : Int) (h0 : 0 ≤ r) (h1 : r < 72057594037927936) (h2 : 0 ≤ x) (h3 : x < 256) : bits .or .u64 (r * 256) x = r * 256 + x :=
  bits_join .u64 64 (by decide) wraps_u64 8 (r * 256) x (by omega) (by simp only [Int.reducePow]; omega) (by simp only [Int.reducePow]; omega) h2 (by simp only [Int.reducePow]; omega) (by simp only [Int.reducePow]; omega)
theorem from_parts (l : List Int) (hb : Byts l) (hl : l.length = 8) : ∃ (u n : Int) (b : Bool), unrankU (val l) = u ∧ wrap64 u = n ∧ rightU (U n) = b ∧ fromF l = (if b = true then (n, true) else (0, false)) ∧ 0 ≤ val l ∧ val l < 18446744073709551616 ∧ (128 ≤ l.getD 0 0 ↔ 9223372036854775808 ≤ val l) ∧ (-9223372036854775808 ≤ n ∧ n ≤ 9223372036854775807) := by
  have h8 := val8_bd hb hl
  have hu := unrankU_bd h8
  refine ⟨_, _, _, rfl, rfl, rfl, ?_, h8.1, h8.2, val_head hb hl, by unfold wrap64; omega⟩
  rw [U_wrap hu]
  unfold fromF
  cases rightU (unrankU (val l)) <;> simp [hl]
theorem from_not (l : List Int) (hl : ¬ l.length = 8) : fromF l = (0, false) := by
  unfold fromF
  rw [if_neg (fun h => hl h.1)]
set_option maxHeartbeats 4000000 in
set_option maxRecDepth 100000 in
theorem c_from (w : World) (v : Value) (l : List Int) (hv : HasB w v l) (hb : Byts l) (hm : l.length ≤ 1000000) (n : Int) (b : Bool) (he : fromF l = (n, b)) :
    Calls Tryz.prog 67 #[v] w fun e w' => e = .returned (.tuple #[.int .i64 n, .bool b]) ∧ Below w.heap.size w w' := by
  obtain ⟨A, c, rfl, hc, hk⟩ := hv
  have H1 := Lib.hid hk
  clear hk
  by_cases hl : l.length = 8
  · obtain ⟨u, n', b', e1, e2, e3, e4, h5, h6, h7, h8⟩ := from_parts l hb hl
    rw [e4] at he
    have C1 := Lib.hid (c_right n' b' e3)
    have C2 := Lib.hid (c_unrank (val l) h5 h6)
    have C3 := Lib.hid (c_num u n' e2)
    unfold unrankU at e1
    rw [e1] at C2
    have HL := Lib.hid hl
    have HBY := Lib.hid hb
    have HE := Lib.hid he
    have hq : ((l.length : Int) != 8) = false := by simp [hl]
    have h8 : (l.length : Int) ≤ 8 := by omega
    clear e1 e2 e3 e4 h5 h6 h7 hl hb he
    go_enter Tryz.func67, Tryz.ntmps67
    go_wp2
    go_loopw [4, 6, 13] (fun r x i W => ∃ (k : Nat) (q : Int), k ≤ l.length ∧ r = .int .u64 q ∧ i = .int .i64 k ∧ Hid (q = val (l.take k)) ∧ ∃ n, W = w.drewN n) (fun _ _ i _ => l.length - (intOf i).toNat)
    case atStart => exact ⟨0, 0, by omega, rfl, rfl, rfl, 0, rfl⟩
    case round =>
      obtain ⟨k, q, hk, rfl, rfl, HQ, m, rfl⟩ := hrel
      by_cases hlt : k < l.length
      · obtain ⟨ad, rfl, x1⟩ := H1.out k hlt
        have hx := byts_at HBY.out k hlt
        have hqb := val_take_bd HBY.out k (by have := HL.out; omega) HL.out
        rw [← HQ.out] at hqb
        have hor := or_byte q (l.getD k 0) hqb.1 hqb.2 hx.1 hx.2
        have hws : IntKind.u64.wrap (q * 256) = q * 256 := wraps_u64 _ (by omega) (by simp only [Int.reducePow]; omega)
        have hwx : IntKind.u64.wrap (l.getD k 0) = l.getD k 0 := wraps_u64 _ (by omega) (by simp only [Int.reducePow]; omega)
        have HN := Lib.hid (show q * 256 + l.getD k 0 = val (l.take (k + 1)) by rw [take_snoc l k hlt, val_snoc, HQ.out])
        generalize l.getD k 0 = x at x1 hor hwx HN
        generalize q * 256 + x = q2 at hor HN
        clear hx hqb
        have hk0 : (0 : Int) ≤ (k : Int) := by omega
        have hk1 : (k : Int) < (l.length : Int) := by omega
        go_wp2
        go_roundw
        case rel => exact ⟨k + 1, q2, by omega, rfl, by go_num, HN, _, rfl⟩
        case measure => simp [intOf]; omega
      · have hk' : k = l.length := by omega
        subst hk'
        rw [List.take_length] at HQ
        have HQ2 := HQ.out
        subst HQ2
        generalize val l = q at C2
        cases b' with
        | true =>
          go_wp2_with (first | (go_at_call 83; refine (C2.out _).mono ?_; rintro e w' ⟨rfl, rfl⟩) | (go_at_call 84; refine (C3.out _).mono ?_; rintro e w' ⟨rfl, rfl⟩) | (go_at_call 29; refine (C1.out _).mono ?_; rintro e w' ⟨rfl, rfl⟩))
          go_ret2
          obtain ⟨rfl, rfl⟩ : n' = n ∧ true = b := by simpa using HE.out
          exact ⟨rfl, below_drewN _ _⟩
        | false =>
          go_wp2_with (first | (go_at_call 83; refine (C2.out _).mono ?_; rintro e w' ⟨rfl, rfl⟩) | (go_at_call 84; refine (C3.out _).mono ?_; rintro e w' ⟨rfl, rfl⟩) | (go_at_call 29; refine (C1.out _).mono ?_; rintro e w' ⟨rfl, rfl⟩))
          go_ret2
          obtain ⟨rfl, rfl⟩ : 0 = n ∧ false = b := by simpa using HE.out
          exact ⟨rfl, below_drewN _ _⟩
  · have hq : ((l.length : Int) != 8) = true := by
      rw [bne_iff_ne]
      omega
    rw [from_not l hl] at he
    obtain ⟨rfl, rfl⟩ : 0 = n ∧ false = b := by simpa using he
    clear he hl hb
    go_enter Tryz.func67, Tryz.ntmps67
    go_wp2
    go_ret2
    exact ⟨rfl, Below.refl _ _⟩
end Go.Proofs.YtikpmlginojnhaaGreatDoor.Fl
