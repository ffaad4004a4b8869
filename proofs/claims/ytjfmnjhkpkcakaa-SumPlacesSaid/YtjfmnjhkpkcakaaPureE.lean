/- Frames, one behind the other, and a piece of one: what All tells of them, in plain Lean; on bytes alone. -/
import Derived.Test.YtjfmnjhkpkcakaaQx22
import Derived.Test.YtjfmnjhkpkcakaaQx25
import Derived.Test.YtjfmnjhkpkcakaaPureB
import Derived.Test.YtjfmnjhkpkcakaaQx26
import Derived.Test.YtjfmnjhkpkcakaaQx27
import Derived.Test.YtjfmnjhkpkcakaaQx28
import Derived.Test.YtjfmnjhkpkcakaaQx30
namespace Go.Proofs.Ytjfmnjhkpkcakaa.Pure
open Go.RowKit Go.Proofs.Ytjfmnjhkpkcakaa.Q Go.Proofs.YtjfmnjhkpkcakaaW.PrintWords Go.Proofs.YtjfmnjhkpkcakaaW.PrintLast Go.Proofs.YtjfmnjhkpkcakaaW.PrintMore

theorem copy_some {l : List Int} (hn : l.length < 140737488355328) : joistref00_CopyBytes.f l = some l := by
  unfold joistref00_CopyBytes.f
  simp only [Option.bind_some, List.length_nil, Nat.zero_add, List.nil_append]
  rw [if_pos hn]
theorem refsum_l0 (l : List Int) (hb : Byt l) (hn : l.length ≤ 140737488355328) : ∀ (d i : Nat) (x y : Int), i + d = l.length → 0 ≤ x → x < 65521 → 0 ≤ y → y < 65521 →
    Ev (fun k => joistref04_Sum.l0 k l x y (i : Int)) ((ad (l.drop i) x y).2 * 65536 + (ad (l.drop i) x y).1) := by
  intro d
  induction d with
  | zero =>
    intro i x y hi h1 h2 h3 h4
    refine Ev.step (f := fun _ => some ((ad (l.drop i) x y).2 * 65536 + (ad (l.drop i) x y).1)) (fun k => ?_) (Ev.now _)
    simp only [joistref04_Sum.l0]
    rw [if_neg (by omega), List.drop_eq_nil_of_le (by omega)]
    rw [w64 (x := y * 65536) (by omega) (by omega), w64 (by omega) (by omega)]
    rfl
  | succ d ih =>
    intro i x y hi h1 h2 h3 h4
    have hlt : i < l.length := by omega
    obtain ⟨hc0, hc1⟩ := rd_byt hb i hlt
    rw [drop_rd l i hlt]
    simp only [ad]
    refine Ev.step (f := fun k => joistref04_Sum.l0 k l ((x + rd l i) % 65521) ((y + (x + rd l i) % 65521) % 65521) ((i + 1 : Nat) : Int)) (fun k => ?_) (ih (i + 1) _ _ (by omega) (by omega) (by omega) (by omega) (by omega))
    simp only [joistref04_Sum.l0]
    rw [if_pos (by omega), if_pos (by omega), w64 (x := rd l i) (by omega) (by omega), w64 (x := x + rd l i) (by omega) (by omega), tmod_pos (a := x + rd l i) (by omega), w64 (x := y + _) (by omega) (by omega), tmod_pos (a := y + _) (by omega), w64 (x := (i : Int) + 1) (by omega) (by omega)]
    rfl
theorem ev_refsum {l : List Int} (hb : Byt l) (hn : l.length ≤ 140737488355328) : Ev (fun k => joistref04_Sum.f k l) (sumOf l) := by
  have := refsum_l0 l hb hn l.length 0 1 0 (by omega) (by omega) (by omega) (by omega) (by omega)
  rwa [List.drop_zero] at this
theorem four_some {s : Int} (h0 : 0 ≤ s) (h1 : s < 4294967296) : joistref04_four.f s = some (endOf s) := by
  unfold joistref04_four.f endOf
  have d : ∀ m : Int, 0 < m → Int.tdiv s m = s / m := fun m hm => Int.tdiv_eq_ediv_of_nonneg h0
  rw [d 16777216 (by omega), d 65536 (by omega), d 256 (by omega), w64 (x := s / 16777216) (by omega) (by omega), w64 (x := s / 65536) (by omega) (by omega), w64 (x := s / 256) (by omega) (by omega), tmod_pos (a := s / 16777216) (by omega), tmod_pos (a := s / 65536) (by omega), tmod_pos (a := s / 256) (by omega), tmod_pos (a := s) (by omega)]
  simp only [Int.emod_emod]
theorem ev_refnum {n : Int} (h0 : 0 ≤ n) (h1 : n < 16384) : Ev (fun k => joistref03_Num.f k n) (numOf n) := by
  refine Ev.congr (f := fun k => joistref03_Num.l0 k n []) (fun k => by unfold joistref03_Num.f; simp only [Option.bind_some]; rw [if_neg (by omega)]) ?_
  unfold numOf
  by_cases h : n < 128
  · rw [if_pos h]
    refine Ev.step (f := fun _ => some [n]) (fun k => ?_) (Ev.now _)
    simp only [joistref03_Num.l0]
    rw [if_neg (by omega), if_pos (by simp)]
    simp only [List.nil_append]
    rw [Int.emod_eq_of_lt h0 (by omega)]
  · rw [if_neg h]
    refine Ev.step (f := fun k => joistref03_Num.l0 k (n / 128) [n % 128 + 128]) (fun k => ?_) ?_
    · simp only [joistref03_Num.l0]
      rw [if_pos (by omega), if_pos (by simp), Int.tdiv_eq_ediv_of_nonneg h0, tmod_pos h0, w64 (x := n / 128) (by omega) (by omega), w64 (x := 128 + n % 128) (by omega) (by omega)]
      simp only [List.nil_append]
      rw [Int.emod_eq_of_lt (by omega) (by omega), Int.add_comm 128]
    · refine Ev.step (f := fun _ => some [n % 128 + 128, n / 128]) (fun k => ?_) (Ev.now _)
      simp only [joistref03_Num.l0]
      rw [if_neg (by omega), if_pos (by simp)]
      simp only [List.cons_append, List.nil_append]
      rw [Int.emod_eq_of_lt (a := n / 128) (by omega) (by omega)]
theorem ev_refframe {l : List Int} (hb : Byt l) (hn : l.length ≤ 4000) : Ev (fun k => joistref04_Frame.f k l) (frameOf l, true) := by
  have hl : (numOf (l.length : Int)).length ≤ 2 := by unfold numOf; split <;> simp
  have hr := sumOf_range l
  refine Ev.congr (f := fun k => (joistref03_Num.f k (l.length : Int)).bind fun t217 => (if t217.length + l.length < 140737488355328 then ((some (t217 ++ l : List Int)).bind fun y220 => ((joistref04_Sum.f k l).bind fun t223 => ((joistref04_four.f t223).bind fun t224 => (if y220.length + t224.length < 140737488355328 then (some ((y220 ++ t224), true)) else (none))))) else (none))) (fun k => by unfold joistref04_Frame.f; rw [if_neg (by omega)]) ?_
  refine Ev.bind (ev_refnum (by omega) (by omega)) ?_
  have b1 : (numOf (l.length : Int)).length + l.length < 140737488355328 := by omega
  have b2 : (numOf (l.length : Int) ++ l).length + (endOf (sumOf l)).length < 140737488355328 := by rw [List.length_append, endOf_length]; omega
  simp only [if_pos b1, Option.bind_some]
  refine Ev.bind (ev_refsum hb (by omega)) ?_
  simp only [four_some hr.1 hr.2, Option.bind_some, if_pos b2]
  exact Ev.congr (fun _ => by rw [frameOf, List.append_assoc]) (Ev.now _)
theorem open_l0 (l : List Int) (hn : l.length ≤ 140737488355328) : ∀ (d i : Nat), i + d = l.length →
    Ev (fun k => joistref04_open.l0 k l (i : Int)) (decide (l.length ≤ 8) && !anyLow (l.drop i)) := by
  intro d
  induction d with
  | zero =>
    intro i hi
    rw [List.drop_eq_nil_of_le (by omega)]
    refine Ev.step (f := fun _ => some (decide (l.length ≤ 8) && !anyLow [])) (fun k => ?_) (Ev.now _)
    simp only [joistref04_open.l0]
    rw [if_neg (by omega)]
    simp [anyLow]
    omega
  | succ d ih =>
    intro i hi
    rw [drop_rd l i (by omega)]
    by_cases h : rd l (i : Int) < 128
    · rw [show anyLow (rd l (i : Int) :: l.drop (i + 1)) = true by simp [anyLow, h]]
      refine Ev.step (f := fun _ => some false) (fun k => ?_) (Ev.congr (fun _ => by simp) (Ev.now _))
      simp only [joistref04_open.l0]
      rw [if_pos (by omega), if_pos (by omega), if_pos h]
    · rw [show anyLow (rd l (i : Int) :: l.drop (i + 1)) = anyLow (l.drop (i + 1)) by simp [anyLow, h]]
      refine Ev.step (f := fun k => joistref04_open.l0 k l ((i + 1 : Nat) : Int)) (fun k => ?_) (ih (i + 1) (by omega))
      simp only [joistref04_open.l0]
      rw [if_pos (by omega), if_pos (by omega), if_neg h, w64 (by omega) (by omega)]
      rfl
theorem ev_open {l : List Int} (hn : l.length ≤ 140737488355328) : Ev (fun k => joistref04_open.f k l) (decide (l.length ≤ 8 ∧ anyLow l = false)) := by
  have := open_l0 l hn l.length 0 (by omega)
  rw [List.drop_zero] at this
  rw [show decide (l.length ≤ 8 ∧ anyLow l = false) = (decide (l.length ≤ 8) && !anyLow l) by cases anyLow l <;> simp]
  exact this
theorem ref_end (l : List Int) (n p : Int) (i : Nat) (hi : min l.length 9 ≤ i) (k : Nat) : joistref03_Take.l0 (k + 2) l n p (i : Int) = some (0, [], false) := by
  by_cases h : (i : Int) < (l.length : Int)
  · simp only [joistref03_Take.l0]
    rw [if_pos h, decide_eq_false (by omega)]
    simp only [joistref03_Take.j1]
    rw [if_neg (by decide)]
  · simp only [joistref03_Take.l0]
    rw [if_neg h]
    simp only [joistref03_Take.j1]
    rw [if_neg (by decide)]
theorem ref_round (l : List Int) (hb : Byt l) (hn : l.length < 140737488355328) (n p : Int) (i : Nat) (hi : i < min l.length 9) (h0 : 0 ≤ n) (h1 : n < p) (hp : p * 128 ≤ 9223372036854775808) (k : Nat) :
    joistref03_Take.l0 (k + 2) l n p (i : Int) =
      if rd l (i : Int) < 128 then (if 0 < i ∧ rd l (i : Int) = 0 then some (0, [], false) else some (n + rd l (i : Int) * p, l.drop (i + 1), true))
      else joistref03_Take.l0 k l (n + (rd l (i : Int) - 128) * p) (wrap64 (p * 128)) ((i + 1 : Nat) : Int) := by
  obtain ⟨hc0, hc1⟩ := rd_byt hb i (by omega)
  have hw1 : wrap64 ((i : Int) + 1) = ((i + 1 : Nat) : Int) := by rw [w64 (by omega) (by omega)]; rfl
  have hp0 : 0 < p := by omega
  have hm0 : 0 ≤ rd l (i : Int) % 128 * p := Int.mul_nonneg (by omega) (by omega)
  have hm1 : rd l (i : Int) % 128 * p ≤ 127 * p := Int.mul_le_mul_of_nonneg_right (by omega) (by omega)
  have hadd : wrap64 (n + wrap64 (wrap64 (Int.tmod (rd l (i : Int)) 128) * p)) = n + rd l (i : Int) % 128 * p := by
    rw [tmod_pos hc0, w64 (x := rd l (i : Int) % 128) (by omega) (by omega), w64 (x := rd l (i : Int) % 128 * p) (by omega) (by omega), w64 (by omega) (by omega)]
  have a1 : (i : Int) < (l.length : Int) := by omega
  have a2 : (0 : Int) ≤ (i : Int) := by omega
  have a3 : (0 : Int) ≤ ((i + 1 : Nat) : Int) := by omega
  have a4 : ((i + 1 : Nat) : Int) ≤ (l.length : Int) := by omega
  have a5 : (i : Int) > 0 ↔ 0 < i := by omega
  have a6 : (i : Int) < 9 := by omega
  have hcl : joistref00_CopyBytes.f (l.drop (i + 1)) = some (l.drop (i + 1)) := copy_some (by rw [List.length_drop]; omega)
  have hj : ∀ k, joistref03_Take.l0 (k + 2) l n p (i : Int) = joistref03_Take.j1 (k + 1) l n p (i : Int) true := by
    intro k
    simp only [joistref03_Take.l0]
    rw [if_pos a1, decide_eq_true a6]
  rw [hj]
  simp only [joistref03_Take.j1]
  rw [if_pos trivial, if_pos a2, if_pos a1, hadd, hw1, if_pos a3, if_pos a4, Int.toNat_natCast, hcl]
  simp only [Option.bind_some]
  by_cases hc : rd l (i : Int) < 128
  · rw [if_pos hc, if_pos hc, Int.emod_eq_of_lt hc0 hc]
    by_cases hi0 : 0 < i
    · rw [if_pos (a5.2 hi0)]
      by_cases hz : rd l (i : Int) = 0
      · rw [if_pos hz, if_pos ⟨hi0, hz⟩]
      · rw [if_neg hz, if_neg (fun h => hz h.2)]
    · rw [if_neg (fun h => hi0 (a5.1 h)), if_neg (fun h => hi0 h.1)]
  · rw [if_neg hc, if_neg hc]
    rw [show rd l (i : Int) % 128 = rd l (i : Int) - 128 by omega]
theorem ref_l0 (l : List Int) (hb : Byt l) (hn : l.length < 140737488355328) : ∀ (d i : Nat) (n p : Int), i + d = min l.length 9 → (i < min l.length 9 → p = pw i ∧ 0 ≤ n ∧ n < p) →
    Ev (fun k => joistref03_Take.l0 k l n p (i : Int)) (tk (9 - i) n (pw i) (l.drop i)) := by
  intro d
  induction d with
  | zero =>
    intro i n p hi _
    rw [tk_end _ _ _ _ (by
      rcases Nat.lt_or_ge i 9 with h | h
      · exact .inr (List.drop_eq_nil_of_le (by omega))
      · exact .inl (by omega))]
    exact ⟨2, fun k hk => by obtain ⟨m, rfl⟩ : ∃ m, k = m + 2 := ⟨k - 2, by omega⟩; exact ref_end l n p i (by omega) m⟩
  | succ d ih =>
    intro i n p hi hp
    obtain ⟨rfl, h0, h1⟩ := hp (by omega)
    have hlt : i < l.length := by omega
    obtain ⟨j, hj⟩ : ∃ j, 9 - i = j + 1 := ⟨9 - i - 1, by omega⟩
    have hj2 : j = 9 - (i + 1) := by omega
    obtain ⟨hc0, hc1⟩ := rd_byt hb i hlt
    have hone : pw i > 1 ↔ 0 < i := ⟨fun h => by
      cases i with
      | zero => exact absurd h (by decide)
      | succ i => exact Nat.succ_pos i, pw_one i⟩
    have hrr := ref_round l hb hn n (pw i) i (by omega) h0 h1 (pw_le i (by omega))
    have hpp := pw_pos i
    have ihi := ih (i + 1) (n + (rd l (i : Int) - 128) * pw i) (wrap64 (pw i * 128)) (by omega)
    rw [drop_rd l i hlt, hj]
    simp only [tk]
    clear ih
    by_cases hc : rd l (i : Int) < 128
    · simp only [if_pos hc, hone] at hrr ⊢
      refine ⟨2, fun k hk => ?_⟩
      obtain ⟨m, rfl⟩ : ∃ m, k = m + 2 := ⟨k - 2, by omega⟩
      refine (hrr m).trans ?_
      split <;> rfl
    · simp only [if_neg hc] at hrr ⊢
      rw [hj2]
      have h2 := ihi (fun hi1 => ?_)
      · obtain ⟨K, hK⟩ := h2
        refine ⟨K + 2, fun k hk => ?_⟩
        obtain ⟨m, rfl⟩ : ∃ m, k = m + 2 := ⟨k - 2, by omega⟩
        refine (hrr m).trans ?_
        exact hK m (by omega)
      · have e1 : 0 ≤ (rd l (i : Int) - 128) * pw i := Int.mul_nonneg (by omega) (by omega)
        have e2 : (rd l (i : Int) - 128) * pw i ≤ 127 * pw i := Int.mul_le_mul_of_nonneg_right (by omega) (by omega)
        have e3 : pw i * 128 * 128 ≤ 9223372036854775808 := pw_le (i + 1) (by omega)
        rw [w64 (by omega) (by omega)]
        exact ⟨rfl, by omega, by omega⟩
theorem ev_reftake {l : List Int} (hb : Byt l) (hn : l.length < 140737488355328) : Ev (fun k => joistref03_Take.f k l) (takeOf l) := by
  have := ref_l0 l hb hn (min l.length 9) 0 0 1 (by omega) (fun _ => ⟨rfl, by omega, by decide⟩)
  rw [List.drop_zero] at this
  exact this
theorem ev_refnext {l : List Int} (hb : Byt l) (hn : l.length < 140737488351232) : Ev (fun k => joistref04_Next.f k l) (nextOf l) := by
  unfold nextOf
  refine Ev.congr (f := fun k => (joistref04_open.f k l).bind fun t242 => (if t242 = true then (some (([] : List Int), ([] : List Int), 1)) else ((joistref03_Take.f k l).bind fun bt243 => (if bt243.2.2 = true then (joistref04_Next.j0 k bt243.1 bt243.2.1 (decide (bt243.1 > 65536))) else (joistref04_Next.j0 k bt243.1 bt243.2.1 true))))) (fun k => rfl) (Ev.bind (ev_open (by omega)) ?_)
  by_cases hg : l.length ≤ 8 ∧ anyLow l = false
  · rw [if_pos hg]
    exact Ev.congr (fun k => by rw [decide_eq_true hg]; rfl) (Ev.now _)
  · rw [if_neg hg]
    obtain ⟨hn0, hrb, hrl, hrt⟩ := tk_spec 9 0 1 l (by omega) (by omega) hb
    refine Ev.congr (f := fun k => (joistref03_Take.f k l).bind fun bt135 => (if bt135.2.2 = true then (joistref04_Next.j0 k bt135.1 bt135.2.1 (decide (bt135.1 > 65536))) else (joistref04_Next.j0 k bt135.1 bt135.2.1 true))) (fun k => by rw [decide_eq_false hg]; rfl) (Ev.bind (ev_reftake hb (by omega)) ?_)
    rw [show tk 9 0 1 l = takeOf l from rfl] at hn0 hrb hrl hrt
    generalize takeOf l = T at *
    obtain ⟨n, rest, ok⟩ := T
    simp only at *
    cases ok with
    | false =>
      simp only [true_or, if_true]
      refine Ev.congr (fun k => if_neg (by decide)) (Ev.step (f := fun _ => some ([], [], 2)) (fun k => ?_) (Ev.now _))
      simp only [joistref04_Next.j0, if_true]
    | true =>
      simp only [if_true, Bool.true_eq_false, false_or]
      by_cases h65 : n > 65536
      · rw [if_pos h65, decide_eq_true h65]
        refine Ev.step (f := fun _ => some ([], [], 2)) (fun k => ?_) (Ev.now _)
        simp only [joistref04_Next.j0, if_true]
      · rw [if_neg h65, decide_eq_false h65]
        obtain ⟨m, rfl⟩ := Int.eq_ofNat_of_zero_le hn0
        have hw : wrap64 ((m : Int) + 4) = ((m + 4 : Nat) : Int) := by rw [w64 (by omega) (by omega)]; rfl
        simp only [Int.toNat_natCast]
        by_cases hs : (rest.length : Int) < (m : Int) + 4
        · rw [if_pos hs]
          refine Ev.step (f := fun _ => some ([], [], 1)) (fun k => ?_) (Ev.now _)
          simp only [joistref04_Next.j0]
          rw [if_neg (by decide), hw, if_pos (by omega)]
        · rw [if_neg hs]
          have hr := sumOf_range (rest.take m)
          have c1 : joistref00_CopyBytes.f (rest.take m) = some (rest.take m) := copy_some (by rw [List.length_take]; omega)
          have c2 : joistref00_CopyBytes.f (rest.drop (m + 4)) = some (rest.drop (m + 4)) := copy_some (by rw [List.length_drop]; omega)
          have hen : ∀ k, joistref04_Next.j0 (k + 1) (m : Int) rest false = (joistref04_Sum.f k (rest.take m)).bind fun t252 => ((joistref04_four.f t252).bind fun t253 => ((joistref00_SameBytes.f k t253 ((rest.take (m + 4)).drop m)).bind fun t260 => (if t260 = true then (some (rest.take m, rest.drop (m + 4), 0)) else (some (([] : List Int), ([] : List Int), 2))))) := by
            intro k
            simp only [joistref04_Next.j0]
            have b1 : (m : Int) ≤ ((m + 4 : Nat) : Int) := by omega
            have b2 : ((m + 4 : Nat) : Int) ≤ (rest.length : Int) := by omega
            have b3 : (0 : Int) ≤ ((m + 4 : Nat) : Int) := by omega
            rw [if_neg (by decide), hw, if_neg (by omega), if_pos (by omega), if_pos (by omega)]
            simp only [if_pos b1, if_pos b2, if_pos b3, Int.toNat_natCast, c1, c2, Option.bind_some]
          refine Ev.step hen (Ev.bind (ev_refsum (byt_take hrb m) (by rw [List.length_take]; omega)) ?_)
          simp only [four_some hr.1 hr.2, Option.bind_some]
          refine Ev.bind (ev_same _ _ (by rw [endOf_length]; omega)) ?_
          by_cases he : endOf (sumOf (rest.take m)) = (rest.take (m + 4)).drop m
          · simp only [if_neg (show ¬ (endOf (sumOf (rest.take m)) ≠ (rest.take (m + 4)).drop m) from fun h => h he), decide_eq_true he, if_true]
            exact Ev.now _
          · simp only [if_pos (show endOf (sumOf (rest.take m)) ≠ (rest.take (m + 4)).drop m from he), decide_eq_false he]
            exact Ev.now _
theorem next_spec {l : List Int} (hb : Byt l) : Byt (nextOf l).1 ∧ Byt (nextOf l).2.1 ∧ ((nextOf l).2.2 = 0 → (nextOf l).2.1.length < l.length) ∧ (nextOf l).1.length ≤ l.length := by
  obtain ⟨hn0, hrb, hrl, hrt⟩ := tk_spec 9 0 1 l (by omega) (by omega) hb
  rw [show tk 9 0 1 l = takeOf l from rfl] at hn0 hrb hrl hrt
  unfold nextOf
  split
  · simp [byt_nil]
  · split
    · simp [byt_nil]
    · rename_i h1 h2
      have hok : (takeOf l).2.2 = true := by
        cases h : (takeOf l).2.2 with
        | true => rfl
        | false => exact absurd (.inl h) h2
      have hlt := hrt hok
      split
      · simp [byt_nil]
      · split
        · simp [byt_nil]
        · refine ⟨byt_take hrb _, byt_drop hrb _, fun _ => ?_, ?_⟩
          · simp only [List.length_drop]; omega
          · simp only [List.length_take]; omega
def allGo : Nat → List (List Int) → List Int → List (List Int) × List Int × Int
  | 0, acc, l => (acc, l, 0)
  | f + 1, acc, l => if l = [] then (acc, [], 0) else if (nextOf l).2.2 = 0 then allGo f (acc ++ [(nextOf l).1]) (nextOf l).2.1 else (acc, l, (nextOf l).2.2)
theorem allGo_fuel : ∀ (f g : Nat) (acc : List (List Int)) (l : List Int), Byt l → l.length ≤ f → l.length ≤ g → allGo f acc l = allGo g acc l := by
  intro f
  induction f with
  | zero =>
    intro g acc l hb h1 h2
    obtain rfl : l = [] := List.eq_nil_of_length_eq_zero (by omega)
    cases g <;> simp [allGo]
  | succ f ih =>
    intro g acc l hb h1 h2
    by_cases hl : l = []
    · subst hl; cases g <;> simp [allGo]
    · obtain ⟨g, rfl⟩ : ∃ m, g = m + 1 := ⟨g - 1, by have := List.length_pos_iff.2 hl; omega⟩
      obtain ⟨hb1, hb2, hlt, _⟩ := next_spec hb
      simp only [allGo, if_neg hl]
      by_cases hw : (nextOf l).2.2 = 0
      · have := hlt hw
        rw [if_pos hw, if_pos hw]; exact ih g _ _ hb2 (by omega) (by omega)
      · rw [if_neg hw, if_neg hw]
/-- What was found ahead stands ahead. -/
theorem allGo_acc : ∀ (f : Nat) (acc : List (List Int)) (l : List Int), allGo f acc l = (acc ++ (allGo f [] l).1, (allGo f [] l).2.1, (allGo f [] l).2.2) := by
  intro f
  induction f with
  | zero => intro acc l; simp [allGo]
  | succ f ih =>
    intro acc l
    simp only [allGo]
    by_cases hl : l = []
    · simp [hl]
    · rw [if_neg hl, if_neg hl]
      by_cases hw : (nextOf l).2.2 = 0
      · rw [if_pos hw, if_pos hw, ih (acc ++ _), ih ([] ++ _)]
        simp [List.append_assoc]
      · rw [if_neg hw, if_neg hw]; simp
theorem allGo_len : ∀ (f : Nat) (acc : List (List Int)) (l : List Int), Byt l → (allGo f acc l).2.1.length ≤ l.length := by
  intro f
  induction f with
  | zero => intro acc l _; simp [allGo]
  | succ f ih =>
    intro acc l hb
    simp only [allGo]
    split
    · simp
    · split
      · rename_i h1 h2
        obtain ⟨_, hb2, hlt, _⟩ := next_spec hb
        have := ih (acc ++ [(nextOf l).1]) _ hb2
        have := hlt h2
        omega
      · simp
def allOf (l : List Int) : List (List Int) × Int × Int := ((allGo l.length [] l).1, (l.length : Int) - ((allGo l.length [] l).2.1.length : Int), (allGo l.length [] l).2.2)
theorem all_l0 (L : List Int) (hL : L.length < 5864062014805) : ∀ (f : Nat) (acc : List (List Int)) (l : List Int), Byt l → l.length ≤ f → l.length ≤ L.length → acc.length + l.length ≤ L.length →
    Ev (fun k => sum_All.l0 k L acc l) ((allGo f acc l).1, (L.length : Int) - ((allGo f acc l).2.1.length : Int), (allGo f acc l).2.2) := by
  intro f
  induction f with
  | zero =>
    intro acc l hb h1 h2 h3
    obtain rfl : l = [] := List.eq_nil_of_length_eq_zero (by omega)
    refine Ev.step (f := fun _ => some (acc, (L.length : Int), 0)) (fun k => ?_) (Ev.congr (fun _ => by simp [allGo]) (Ev.now _))
    simp only [sum_All.l0]
    rw [if_neg (by simp)]
  | succ f ih =>
    intro acc l hb h1 h2 h3
    simp only [allGo]
    by_cases hl : l = []
    · subst hl
      refine Ev.step (f := fun _ => some (acc, (L.length : Int), 0)) (fun k => ?_) (Ev.congr (fun _ => by simp) (Ev.now _))
      simp only [sum_All.l0]
      rw [if_neg (by simp)]
    · have hp := List.length_pos_iff.2 hl
      obtain ⟨hb1, hb2, hlt, _⟩ := next_spec hb
      rw [if_neg hl]
      refine Ev.step (f := fun k => (sum_Next.f k l).bind fun bt275 => (if bt275.2.2 = 0 then (if acc.length < 5864062014805 then (sum_All.l0 k L (acc ++ [bt275.1]) bt275.2.1) else (none)) else (some (acc, wrap64 ((L.length : Int) - (l.length : Int)), bt275.2.2)))) (fun k => ?_) (Ev.bind (ev_next hb (by omega)) ?_)
      · simp only [sum_All.l0]
        rw [if_pos (by omega)]
      · by_cases hw : (nextOf l).2.2 = 0
        · have hlt := hlt hw
          have ha : acc.length < 5864062014805 := by omega
          simp only [if_pos hw, if_pos ha]
          exact ih _ _ hb2 (by omega) (by omega) (by simp; omega)
        · simp only [if_neg hw]
          exact Ev.congr (fun _ => by rw [w64 (by omega) (by omega)]) (Ev.now _)
theorem ev_all {l : List Int} (hb : Byt l) (hn : l.length < 5864062014805) : Ev (fun k => sum_All.f k l) (allOf l) := all_l0 l hn l.length [] l hb (Nat.le_refl _) (Nat.le_refl _) (by simp)
theorem refall_l0 (L : List Int) (hL : L.length < 5864062014805) : ∀ (f : Nat) (acc : List (List Int)) (l : List Int), Byt l → l.length ≤ f → l.length ≤ L.length → acc.length + l.length ≤ L.length →
    Ev (fun k => joistref04_All.l0 k L acc l) ((allGo f acc l).1, (L.length : Int) - ((allGo f acc l).2.1.length : Int), (allGo f acc l).2.2) := by
  intro f
  induction f with
  | zero =>
    intro acc l hb h1 h2 h3
    obtain rfl : l = [] := List.eq_nil_of_length_eq_zero (by omega)
    refine Ev.step (f := fun _ => some (acc, (L.length : Int), 0)) (fun k => ?_) (Ev.congr (fun _ => by simp [allGo]) (Ev.now _))
    simp only [joistref04_All.l0]
    rw [if_neg (by simp)]
  | succ f ih =>
    intro acc l hb h1 h2 h3
    simp only [allGo]
    by_cases hl : l = []
    · subst hl
      refine Ev.step (f := fun _ => some (acc, (L.length : Int), 0)) (fun k => ?_) (Ev.congr (fun _ => by simp) (Ev.now _))
      simp only [joistref04_All.l0]
      rw [if_neg (by simp)]
    · have hp := List.length_pos_iff.2 hl
      obtain ⟨hb1, hb2, hlt, _⟩ := next_spec hb
      rw [if_neg hl]
      refine Ev.step (f := fun k => (joistref04_Next.f k l).bind fun bt275 => (if bt275.2.2 = 0 then (if acc.length < 5864062014805 then (joistref04_All.l0 k L (acc ++ [bt275.1]) bt275.2.1) else (none)) else (some (acc, wrap64 ((L.length : Int) - (l.length : Int)), bt275.2.2)))) (fun k => ?_) (Ev.bind (ev_refnext hb (by omega)) ?_)
      · simp only [joistref04_All.l0]
        rw [if_pos (by omega)]
      · by_cases hw : (nextOf l).2.2 = 0
        · have hlt := hlt hw
          have ha : acc.length < 5864062014805 := by omega
          simp only [if_pos hw, if_pos ha]
          exact ih _ _ hb2 (by omega) (by omega) (by simp; omega)
        · simp only [if_neg hw]
          exact Ev.congr (fun _ => by rw [w64 (by omega) (by omega)]) (Ev.now _)
theorem ev_refall {l : List Int} (hb : Byt l) (hn : l.length < 5864062014805) : Ev (fun k => joistref04_All.f k l) (allOf l) := refall_l0 l hn l.length [] l hb (Nat.le_refl _) (Nat.le_refl _) (by simp)

/-! ### lists of rows of bytes -/
theorem rdL_nat (l : List (List Int)) (i : Nat) (h : i < l.length) : rd_L1 l (i : Int) = l[i] := by
  unfold rd_L1
  simp [List.getD_eq_getElem?_getD, List.getElem?_eq_getElem h]
theorem drop_rdL (l : List (List Int)) (i : Nat) (h : i < l.length) : l.drop i = rd_L1 l (i : Int) :: l.drop (i + 1) := by
  rw [rdL_nat l i h]; exact List.drop_eq_getElem_cons h
theorem lists_l0 (a b : List (List Int)) (hn : a.length ≤ 140737488355328) (hs : ∀ x ∈ a, x.length ≤ 140737488355328) (hl : a.length = b.length) : ∀ (d i : Nat), i + d = a.length →
    Ev (fun k => joistref00_SameLists.l0 k a b (i : Int)) (decide (a.drop i = b.drop i)) := by
  intro d
  induction d with
  | zero =>
    intro i hi
    rw [List.drop_eq_nil_of_le (by omega), List.drop_eq_nil_of_le (by omega)]
    refine Ev.step (f := fun _ => some true) (fun k => ?_) (Ev.now _)
    simp only [joistref00_SameLists.l0]
    rw [if_neg (by omega)]
  | succ d ih =>
    intro i hi
    have hx : (rd_L1 a (i : Int)).length ≤ 140737488355328 := by rw [rdL_nat a i (by omega)]; exact hs _ (List.getElem_mem _)
    have hstep : ∀ k, joistref00_SameLists.l0 (k + 1) a b (i : Int) = (joistref00_SameBytes.f k (rd_L1 a (i : Int)) (rd_L1 b (i : Int))).bind fun t300 => (if t300 = true then (joistref00_SameLists.l0 k a b ((i + 1 : Nat) : Int)) else (some false)) := by
      intro k
      simp only [joistref00_SameLists.l0]
      rw [if_pos (by omega), if_pos (by omega), if_pos (by omega), w64 (by omega) (by omega)]
      rfl
    rw [drop_rdL a i (by omega), drop_rdL b i (by omega)]
    refine Ev.step hstep (Ev.bind (ev_same _ _ hx) ?_)
    by_cases h : rd_L1 a (i : Int) = rd_L1 b (i : Int)
    · rw [show decide (rd_L1 a (i : Int) :: a.drop (i + 1) = rd_L1 b (i : Int) :: b.drop (i + 1)) = decide (a.drop (i + 1) = b.drop (i + 1)) by simp [h]]
      simp only [decide_eq_true h, if_true]
      exact ih (i + 1) (by omega)
    · rw [decide_eq_false (by simp [h] : ¬ (rd_L1 a (i : Int) :: a.drop (i + 1) = rd_L1 b (i : Int) :: b.drop (i + 1)))]
      simp only [decide_eq_false h]
      exact Ev.now _
theorem ev_lists (a b : List (List Int)) (hn : a.length ≤ 140737488355328) (hs : ∀ x ∈ a, x.length ≤ 140737488355328) : Ev (fun k => joistref00_SameLists.f k a b) (decide (a = b)) := by
  by_cases hl : a.length = b.length
  · have := lists_l0 a b hn hs hl a.length 0 (by omega)
    rw [List.drop_zero, List.drop_zero] at this
    exact Ev.congr (fun k => by unfold joistref00_SameLists.f; rw [if_pos (by omega)]; rfl) this
  · rw [decide_eq_false (fun h => hl (by rw [h]))]
    exact Ev.congr (fun k => by unfold joistref00_SameLists.f; rw [if_neg (by omega)]) (Ev.now _)
theorem allGo_sizes : ∀ (f : Nat) (acc : List (List Int)) (l : List Int) (B : Nat), Byt l → l.length ≤ B → (∀ x ∈ acc, x.length ≤ B) → (∀ x ∈ (allGo f acc l).1, x.length ≤ B) ∧ (allGo f acc l).1.length ≤ acc.length + l.length := by
  intro f
  induction f with
  | zero => intro acc l B hb h1 h2; simp [allGo]; exact h2
  | succ f ih =>
    intro acc l B hb h1 h2
    simp only [allGo]
    split
    · simp; exact h2
    · split
      · rename_i h3 h4
        obtain ⟨_, hb2, hlt, hx⟩ := next_spec hb
        have hlt := hlt h4
        obtain ⟨a, b⟩ := ih (acc ++ [(nextOf l).1]) _ B hb2 (by omega) (fun x hx2 => by
          rcases List.mem_append.1 hx2 with h | h
          · exact h2 x h
          · simp at h; subst h; omega)
        refine ⟨a, ?_⟩
        simp at b
        omega
      · simp; exact h2
def framesOf (l : List (List Int)) : List Int := (l.map frameOf).flatten
theorem framesOf_cons (x : List Int) (l : List (List Int)) : framesOf (x :: l) = frameOf x ++ framesOf l := by simp [framesOf]
theorem framesOf_snoc (l : List (List Int)) (x : List Int) : framesOf (l ++ [x]) = framesOf l ++ frameOf x := by simp [framesOf]
theorem framesOf_append (l m : List (List Int)) : framesOf (l ++ m) = framesOf l ++ framesOf m := by simp [framesOf]
theorem byt_frames {l : List (List Int)} (hb : ∀ x ∈ l, Byt x ∧ x.length ≤ 4000) : Byt (framesOf l) := by
  induction l with
  | nil => exact byt_nil
  | cons x l ih =>
    rw [framesOf_cons]
    exact byt_append (byt_frame (hb x (by simp)).1 (hb x (by simp)).2) (ih (fun y hy => hb y (by simp [hy])))
theorem frame_pos (l : List Int) : 0 < (frameOf l).length := by rw [frame_length]; omega
theorem numOf_length_le (n : Int) : (numOf n).length ≤ 2 ∧ 1 ≤ (numOf n).length := by unfold numOf; split <;> simp
/-- Frames are told one by one; then what follows. -/
theorem allGo_frames : ∀ (l : List (List Int)) (f : Nat) (acc : List (List Int)) (r : List Int), (∀ x ∈ l, Byt x ∧ x.length ≤ 4000) → Byt r → (framesOf l ++ r).length ≤ f → allGo f acc (framesOf l ++ r) = allGo r.length (acc ++ l) r := by
  intro l
  induction l with
  | nil =>
    intro f acc r _ hr hf
    simp only [framesOf, List.map_nil, List.flatten_nil, List.nil_append, List.append_nil] at *
    exact allGo_fuel _ _ _ _ hr hf (Nat.le_refl _)
  | cons x l ih =>
    intro f acc r hb hr hf
    have hx := hb x (by simp)
    have hp := frame_pos x
    rw [framesOf_cons, List.append_assoc] at *
    obtain ⟨f, rfl⟩ : ∃ m, f = m + 1 := ⟨f - 1, by rw [List.length_append] at hf; omega⟩
    have hne : frameOf x ++ (framesOf l ++ r) ≠ [] := List.ne_nil_of_length_pos (by rw [List.length_append]; omega)
    simp only [allGo]
    rw [if_neg hne, next_frame hx.2]
    simp only [if_true]
    rw [ih f _ r (fun y hy => hb y (by simp [hy])) hr (by rw [List.length_append] at hf; omega), List.append_assoc]
    rfl
theorem next_short {n : Nat} (h1 : n < 16384) (s : List Int) (hs : s.length < n + 4) : nextOf (numOf n ++ s) = ([], [], 1) := by
  unfold nextOf
  rw [if_neg (by rw [anyLow_append, anyLow_num (by omega) (by omega)]; simp), take_num (by omega) (by omega)]
  simp only [Bool.true_eq_false, false_or]
  rw [if_neg (by omega), if_pos (by omega)]
/-- A piece of a frame is torn. -/
theorem next_torn {l : List Int} (hn : l.length ≤ 4000) (c : Nat) (h0 : 0 < c) (h1 : c < (frameOf l).length) : nextOf ((frameOf l).take c) = ([], [], 1) := by
  have hl := numOf_length_le (l.length : Int)
  rw [frame_length] at h1
  by_cases hc : (numOf (l.length : Int)).length ≤ c
  · rw [frameOf, List.take_append, List.take_of_length_le hc]
    exact next_short (by omega) _ (by rw [List.length_take]; omega)
  · have hc1 : c = 1 := by omega
    have h128 : ¬ (l.length : Int) < 128 := by
      intro h
      have : (numOf (l.length : Int)).length = 1 := by unfold numOf; rw [if_pos h]; rfl
      omega
    have he : (frameOf l).take c = [(l.length : Int) % 128 + 128] := by
      rw [hc1, frameOf, numOf, if_neg h128]; rfl
    rw [he]
    unfold nextOf
    rw [if_pos ⟨by simp, by simp [anyLow]; omega⟩]
theorem allGo_torn {l : List Int} (hn : l.length ≤ 4000) (c : Nat) (h0 : 0 < c) (h1 : c < (frameOf l).length) (acc : List (List Int)) : allGo ((frameOf l).take c).length acc ((frameOf l).take c) = (acc, (frameOf l).take c, 1) := by
  have hlen : ((frameOf l).take c).length = c := by rw [List.length_take]; omega
  obtain ⟨m, hm⟩ : ∃ m, c = m + 1 := ⟨c - 1, by omega⟩
  rw [hlen]
  conv => lhs; rw [show allGo c = allGo (m + 1) by rw [hm]]
  simp only [allGo]
  rw [if_neg (fun h => by rw [h] at hlen; simp at hlen; omega), next_torn hn c h0 h1, if_neg (by decide)]

/-! ### what lists weigh -/
def weight : List (List Int) → Nat
  | [] => 0
  | x :: l => (x.length + 1) + weight l
theorem weight_take (l : List (List Int)) (i : Nat) (h : i < l.length) : weight (l.take (i + 1)) = weight (l.take i) + ((rd_L1 l (i : Int)).length + 1) := by
  rw [rdL_nat l i h]
  induction l generalizing i with
  | nil => simp at h
  | cons x l ih =>
    cases i with
    | zero => simp [weight]
    | succ i =>
      simp only [List.take_succ_cons, weight, List.getElem_cons_succ]
      rw [ih i (by simpa using h)]
      omega
theorem weight_mem {l : List (List Int)} {x : List Int} (h : x ∈ l) : x.length + 1 ≤ weight l := by
  induction l with
  | nil => cases h
  | cons y l ih =>
    rw [weight]
    rcases List.mem_cons.1 h with rfl | h
    · omega
    · have := ih h; omega
theorem weight_length (l : List (List Int)) : l.length ≤ weight l := by
  induction l with
  | nil => simp
  | cons y l ih => rw [weight, List.length_cons]; omega
theorem weigh_l0 (l : List (List Int)) (most : Int) (hm : most ≤ 3000) (hs : ∀ x ∈ l, x.length ≤ 140737488355328) (hn : l.length ≤ 140737488355328) : ∀ (d i : Nat) (n : Int), i + d = l.length → n = (weight (l.take i) : Int) → (n ≤ 140737488355328 * 2) →
    ∃ v : Int, Ev (fun k => joistref00_Weigh.l0 k l most n (i : Int)) v ∧ (v ≤ most → v = (weight l : Int)) := by
  intro d
  induction d with
  | zero =>
    intro i n hi hw hb
    refine ⟨n, Ev.step (f := fun _ => some n) (fun k => ?_) (Ev.now _), fun _ => by rw [hw, List.take_of_length_le (by omega)]⟩
    simp only [joistref00_Weigh.l0]
    rw [if_neg (by omega)]
  | succ d ih =>
    intro i n hi hw hb
    by_cases hle : n ≤ most
    · have hx : (rd_L1 l (i : Int)).length ≤ 140737488355328 := by rw [rdL_nat l i (by omega)]; exact hs _ (List.getElem_mem _)
      have hwt := weight_take l i (by omega)
      obtain ⟨v, hv, hv2⟩ := ih (i + 1) (n + (1 + ((rd_L1 l (i : Int)).length : Int))) (by omega) (by omega) (by omega)
      refine ⟨v, Ev.step (fun k => ?_) hv, hv2⟩
      simp only [joistref00_Weigh.l0]
      rw [if_pos (by omega), if_pos hle, if_pos (by omega), w64 (x := 1 + _) (by omega) (by omega), w64 (x := n + _) (by omega) (by omega), w64 (x := (i : Int) + 1) (by omega) (by omega)]
      rfl
    · refine ⟨n, Ev.step (f := fun _ => some n) (fun k => ?_) (Ev.now _), fun h => absurd h hle⟩
      simp only [joistref00_Weigh.l0]
      rw [if_pos (by omega), if_neg hle]
theorem ev_weigh (l : List (List Int)) (most : Int) (h0 : 0 ≤ most) (hm : most ≤ 3000) (hs : ∀ x ∈ l, x.length ≤ 140737488355328) (hn : l.length ≤ 140737488355328) :
    ∃ v : Int, Ev (fun k => joistref00_Weigh.f k l most) v ∧ (v ≤ most → v = (weight l : Int)) := by
  by_cases h : (l.length : Int) > most
  · refine ⟨most + 1, Ev.congr (fun k => ?_) (Ev.now _), fun h => by omega⟩
    unfold joistref00_Weigh.f
    rw [if_pos h, w64 (by omega) (by omega)]
  · obtain ⟨v, hv, hv2⟩ := weigh_l0 l most hm hs hn l.length 0 0 (by omega) (by simp [weight]) (by omega)
    refine ⟨v, Ev.congr (fun k => ?_) hv, hv2⟩
    unfold joistref00_Weigh.f
    rw [if_neg h]
    rfl
theorem frames_length : ∀ (l : List (List Int)), (framesOf l).length ≤ 7 * weight l := by
  intro l
  induction l with
  | nil => simp [framesOf]
  | cons x l ih =>
    have := numOf_length_le (x.length : Int)
    rw [framesOf_cons, List.length_append, frame_length, weight]
    omega
end Go.Proofs.Ytjfmnjhkpkcakaa.Pure
