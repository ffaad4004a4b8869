/- What codec.Take tells of bytes, in plain Lean; on bytes alone. -/
import Derived.Test.YtjfmnjhkpkcakaaPureA1
namespace Go.Proofs.Ytjfmnjhkpkcakaa.Pure
open Go.RowKit Go.Proofs.Ytjfmnjhkpkcakaa.Q Go.Proofs.YtjfmnjhkpkcakaaW.PrintWords Go.Proofs.YtjfmnjhkpkcakaaW.PrintLast Go.Proofs.YtjfmnjhkpkcakaaW.PrintMore

/-! ### the number at the beginning of bytes -/
def tk : Nat → Int → Int → List Int → Int × List Int × Bool
  | 0, _, _, _ => (0, [], false)
  | _ + 1, _, _, [] => (0, [], false)
  | f + 1, n, p, c :: r => if c < 128 then (if p > 1 ∧ c = 0 then (0, [], false) else (n + c * p, r, true)) else tk f (n + (c - 128) * p) (p * 128) r
def takeOf (l : List Int) : Int × List Int × Bool := tk 9 0 1 l
theorem u8_and128 {c : Int} (h0 : 0 ≤ c) (h1 : c < 256) : Go.bits .and .u8 c 128 = 0 ↔ c < 128 := by
  have h : ∀ n : Fin 256, (Go.bits .and .u8 (n.val : Int) 128 = 0 ↔ (n.val : Int) < 128) := by decide +kernel
  obtain ⟨m, rfl⟩ := Int.eq_ofNat_of_zero_le h0
  exact h ⟨m, by omega⟩
theorem u8_and127 {c : Int} (h0 : 0 ≤ c) (h1 : c < 256) : Go.bits .and .u8 c 127 = c % 128 := bits_mask .u8 8 (by decide) wraps_u8 7 (by decide) c h0 h1
def pw : Nat → Int
  | 0 => 1
  | n + 1 => pw n * 128
theorem pw_pow : ∀ i : Nat, pw i = 2 ^ (7 * i)
  | 0 => rfl
  | n + 1 => by rw [pw, pw_pow n, Nat.mul_add, Int.pow_add]; rfl
theorem pw_pos : ∀ i : Nat, 0 < pw i
  | 0 => by decide
  | n + 1 => by have := pw_pos n; rw [pw]; omega
theorem pw_one : ∀ i : Nat, 0 < i → 1 < pw i
  | 0, h => absurd h (by decide)
  | n + 1, _ => by have := pw_pos n; rw [pw]; omega
theorem pw_le (i : Nat) (hi : i ≤ 8) : pw i * 128 ≤ 9223372036854775808 := by
  have h : ∀ j : Fin 9, pw j.val * 128 ≤ 9223372036854775808 := by decide
  exact h ⟨i, by omega⟩
theorem tk_or {n c : Int} {i : Nat} (hi : i ≤ 8) (h0 : 0 ≤ n) (h1 : n < pw i) (hc0 : 0 ≤ c) (hc1 : c < 256) :
    Go.bits .or .i64 n (shl .i64 (wrap64 (Go.bits .and .u8 c 127)) (wrap64 (7 * (i : Int)))) = n + (c % 128) * pw i := by
  rw [u8_and127 hc0 hc1, w64 (x := c % 128) (by omega) (by omega), w64 (x := 7 * (i : Int)) (by omega) (by omega)]
  unfold shl
  have e : (7 * (i : Int)).toNat = 7 * i := by omega
  have e2 : min (7 * i) IntKind.i64.bits = 7 * i := Nat.min_eq_left (by show 7 * i ≤ 64; omega)
  rw [e, e2, ← pw_pow]
  have hp := pw_le i hi
  have hq := pw_pos i
  have hm0 : 0 ≤ c % 128 * pw i := Int.mul_nonneg (by omega) (by omega)
  have hm1 : c % 128 * pw i ≤ 127 * pw i := Int.mul_le_mul_of_nonneg_right (by omega) (by omega)
  have hm2 : c % 128 * pw i < 2 ^ 63 := by
    have : (2 : Int) ^ 63 = 9223372036854775808 := by decide
    rw [this]; omega
  have hn2 : n < 2 ^ 63 := by
    have : (2 : Int) ^ 63 = 9223372036854775808 := by decide
    rw [this]; omega
  rw [wraps_i64 _ hm0 hm2, or_comm_, bits_join .i64 63 (by decide) wraps_i64 (7 * i) _ n hm0 (by rw [← pw_pow]; exact Int.mul_emod_left _ _) hm2 h0 (by rw [← pw_pow]; exact h1) hn2]
  exact Int.add_comm _ _
theorem take_end (l : List Int) (n : Int) (i : Nat) (hi : i = min l.length 9) (k : Nat) :
    codec_Take.l0 (k + 1) l n (l.take (min l.length 9)) ((l.take (min l.length 9)).length : Int) (i : Int) = some (0, [], false) := by
  have hm : (l.take (min l.length 9)).length = min l.length 9 := by rw [List.length_take]; omega
  simp only [codec_Take.l0]
  rw [if_neg (by omega)]
theorem clone_drop (l : List Int) (hn : l.length < 140737488355328) (m : Nat) : slices_Clone_byte_byte.f (l.drop m) = some (l.drop m) := by
  unfold slices_Clone_byte_byte.f; rw [if_pos (by rw [List.length_drop]; omega)]
/-- One round of Take. -/
theorem take_round (l : List Int) (hb : Byt l) (hn : l.length < 140737488355328) (n : Int) (i : Nat) (hi : i < min l.length 9) (h0 : 0 ≤ n) (h1 : n < pw i) (k : Nat) :
    codec_Take.l0 (k + 1) l n (l.take (min l.length 9)) ((l.take (min l.length 9)).length : Int) (i : Int) =
      if rd l (i : Int) < 128 then (if 0 < i ∧ rd l (i : Int) = 0 then some (0, [], false) else some (n + rd l (i : Int) * pw i, l.drop (i + 1), true))
      else codec_Take.l0 k l (n + (rd l (i : Int) - 128) * pw i) (l.take (min l.length 9)) ((l.take (min l.length 9)).length : Int) ((i + 1 : Nat) : Int) := by
  have hm : (l.take (min l.length 9)).length = min l.length 9 := by rw [List.length_take]; omega
  obtain ⟨hc0, hc1⟩ := rd_byt hb i (by omega)
  have hrd : rd (l.take (min l.length 9)) (i : Int) = rd l (i : Int) := by
    rw [rd_nat _ i (by omega), rd_nat _ i (by omega)]; exact List.getElem_take
  have hi8 : i ≤ 8 := by omega
  have hw7 : 0 ≤ wrap64 (7 * (i : Int)) := by rw [w64 (by omega) (by omega)]; omega
  have hw1 : wrap64 ((i : Int) + 1) = ((i + 1 : Nat) : Int) := by rw [w64 (by omega) (by omega)]; rfl
  have a1 : (i : Int) < ((l.take (min l.length 9)).length : Int) := by omega
  have a2 : (0 : Int) ≤ (i : Int) := by omega
  have a3 : (0 : Int) ≤ ((i + 1 : Nat) : Int) := by omega
  have a4 : ((i + 1 : Nat) : Int) ≤ (l.length : Int) := by omega
  have a5 : (i : Int) > 0 ↔ 0 < i := by omega
  have hcl := clone_drop l hn (i + 1)
  have hor := tk_or hi8 h0 h1 hc0 hc1
  simp only [codec_Take.l0]
  rw [if_pos a1, if_pos a2, if_pos a1, if_pos hw7, hrd, hor, hw1, if_pos a3, if_pos a4, Int.toNat_natCast, hcl]
  simp only [Option.bind_some]
  by_cases hc : rd l (i : Int) < 128
  · rw [if_pos hc, if_pos ((u8_and128 hc0 hc1).2 hc)]
    rw [Int.emod_eq_of_lt hc0 hc]
    by_cases hi0 : 0 < i
    · rw [if_pos (a5.2 hi0)]
      by_cases hz : rd l (i : Int) = 0
      · rw [if_pos hz, if_pos ⟨hi0, hz⟩]
      · rw [if_neg hz, if_neg (fun h => hz h.2)]
    · rw [if_neg (fun h => hi0 (a5.1 h)), if_neg (fun h => hi0 h.1)]
  · rw [if_neg hc, if_neg (fun h => hc ((u8_and128 hc0 hc1).1 h))]
    rw [show rd l (i : Int) % 128 = rd l (i : Int) - 128 by clear hor; omega]
theorem tk_end (j : Nat) (n p : Int) (l : List Int) (h : j = 0 ∨ l = []) : tk j n p l = (0, [], false) := by
  rcases h with rfl | rfl
  · rfl
  · cases j <;> rfl
theorem take_l0 (l : List Int) (hb : Byt l) (hn : l.length < 140737488355328) : ∀ (d i : Nat) (n : Int), i + d = min l.length 9 → 0 ≤ n → n < pw i →
    Ev (fun k => codec_Take.l0 k l n (l.take (min l.length 9)) ((l.take (min l.length 9)).length : Int) (i : Int)) (tk (9 - i) n (pw i) (l.drop i)) := by
  intro d
  induction d with
  | zero =>
    intro i n hi h0 h1
    rw [tk_end _ _ _ _ (by
      rcases Nat.lt_or_ge i 9 with h | h
      · exact .inr (List.drop_eq_nil_of_le (by omega))
      · exact .inl (by omega))]
    exact Ev.step (fun k => take_end l n i (by omega) k) (Ev.now _)
  | succ d ih =>
    intro i n hi h0 h1
    have hlt : i < l.length := by omega
    obtain ⟨j, hj⟩ : ∃ j, 9 - i = j + 1 := ⟨9 - i - 1, by omega⟩
    have hj2 : j = 9 - (i + 1) := by omega
    obtain ⟨hc0, hc1⟩ := rd_byt hb i hlt
    have hone : pw i > 1 ↔ 0 < i := ⟨fun h => by
      cases i with
      | zero => exact absurd h (by decide)
      | succ i => exact Nat.succ_pos i, pw_one i⟩
    refine Ev.step (take_round l hb hn n i (by omega) h0 h1) ?_
    rw [drop_rd l i hlt, hj]
    simp only [tk]
    have ihi := ih (i + 1) (n + (rd l (i : Int) - 128) * pw i) (by omega)
    have hpp := pw_pos i
    clear ih hi hj
    by_cases hc : rd l (i : Int) < 128
    · simp only [if_pos hc, hone]
      by_cases hd : 0 < i ∧ rd l (i : Int) = 0
      · simp only [if_pos hd]
        exact Ev.now _
      · simp only [if_neg hd]
        exact Ev.now _
    · simp only [if_neg hc]
      rw [hj2]
      refine ihi ?_ ?_
      · have : 0 ≤ (rd l (i : Int) - 128) * pw i := Int.mul_nonneg (by omega) (by omega)
        omega
      · have : (rd l (i : Int) - 128) * pw i ≤ 127 * pw i := Int.mul_le_mul_of_nonneg_right (by omega) (by omega)
        rw [pw]
        omega
theorem ev_take {l : List Int} (hb : Byt l) (hn : l.length < 140737488355328) : Ev (fun k => codec_Take.f k l) (takeOf l) := by
  have hmn : mn (l.length : Int) 9 = ((min l.length 9 : Nat) : Int) := by unfold mn; split <;> omega
  have := take_l0 l hb hn (min l.length 9) 0 0 (by omega) (by omega) (by decide)
  rw [List.drop_zero] at this
  refine Ev.congr (fun k => ?_) this
  unfold codec_Take.f
  rw [hmn, if_pos (by omega), if_pos (by omega), Int.toNat_natCast]
  rfl
theorem tk_spec : ∀ (f : Nat) (n p : Int) (l : List Int), 0 ≤ n → 0 < p → Byt l → 0 ≤ (tk f n p l).1 ∧ Byt (tk f n p l).2.1 ∧ (tk f n p l).2.1.length ≤ l.length ∧ ((tk f n p l).2.2 = true → (tk f n p l).2.1.length < l.length) := by
  intro f
  induction f with
  | zero => intro n p l h0 hp hb; simp [tk, byt_nil]
  | succ f ih =>
    intro n p l h0 hp hb
    cases l with
    | nil => simp [tk, byt_nil]
    | cons c r =>
      obtain ⟨⟨hc0, hc1⟩, hr⟩ := byt_cons hb
      simp only [tk]
      split
      · split
        · simp [byt_nil]
        · refine ⟨?_, hr, by simp, fun _ => by simp⟩
          have := Int.mul_nonneg hc0 (Int.le_of_lt hp)
          omega
      · have h2 : 0 ≤ (c - 128) * p := Int.mul_nonneg (by omega) (by omega)
        obtain ⟨a, b, c', d⟩ := ih (n + (c - 128) * p) (p * 128) r (by omega) (by omega) hr
        exact ⟨a, b, by simp; omega, fun h => by have := d h; simp; omega⟩
/-- A number's bytes tell it, whatever follows. -/
theorem take_num {n : Int} (h0 : 0 ≤ n) (h1 : n < 16384) (s : List Int) : takeOf (numOf n ++ s) = (n, s, true) := by
  unfold takeOf numOf
  split
  · rename_i h
    simp [tk, h]
  · rename_i h
    simp only [List.cons_append, List.nil_append, tk]
    rw [if_neg (by omega)]
    rw [if_pos (by omega), if_neg (by omega)]
    simp only [Prod.mk.injEq, and_true]
    omega

end Go.Proofs.Ytjfmnjhkpkcakaa.Pure
