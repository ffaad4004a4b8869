/- The reference's functions of layer 4 tell what the program's do, in plain Lean; on bytes alone. -/
import Derived.Test.YtjfmnjhkpkcakaaQx22
import Derived.Test.YtjfmnjhkpkcakaaQx25
import Derived.Test.YtjfmnjhkpkcakaaPureB
namespace Go.Proofs.Ytjfmnjhkpkcakaa.Pure
open Go.RowKit Go.Proofs.Ytjfmnjhkpkcakaa.Q Go.Proofs.YtjfmnjhkpkcakaaW.PrintWords Go.Proofs.YtjfmnjhkpkcakaaW.PrintLast Go.Proofs.YtjfmnjhkpkcakaaW.PrintMore

theorem copy_some {l : List Int} (hn : l.length < 140737488355328) : joistref00_CopyBytes.f l = some l := by
  unfold joistref00_CopyBytes.f
  simp only [Option.bind_some, List.length_nil, Nat.zero_add, List.nil_append]
  rw [if_pos hn]
theorem refsum_l0 (l : List Int) (hb : Byt l) (hn : l.length ≤ 140737488355328) : ∀ (d i : Nat) (x y : Int), i + d = l.length → 0 ≤ x → x < 65521 → 0 ≤ y → y < 65521 →
    Ev (fun k => joistref04_Sum.l0 k l x y (i : Int)) ((ad (l.drop i) x y).2 * 65536 + (ad (l.drop i) x y).1) := by
  intro d
  induction d with
  | zero =>
    intro i x y hi h1 h2 h3 h4
    refine Ev.step (f := fun _ => some ((ad (l.drop i) x y).2 * 65536 + (ad (l.drop i) x y).1)) (fun k => ?_) (Ev.now _)
    simp only [joistref04_Sum.l0]
    rw [if_neg (by omega), List.drop_eq_nil_of_le (by omega)]
    rw [w64 (x := y * 65536) (by omega) (by omega), w64 (by omega) (by omega)]
    rfl
  | succ d ih =>
    intro i x y hi h1 h2 h3 h4
    have hlt : i < l.length := by omega
    obtain ⟨hc0, hc1⟩ := rd_byt hb i hlt
    rw [drop_rd l i hlt]
    simp only [ad]
    refine Ev.step (f := fun k => joistref04_Sum.l0 k l ((x + rd l i) % 65521) ((y + (x + rd l i) % 65521) % 65521) ((i + 1 : Nat) : Int)) (fun k => ?_) (ih (i + 1) _ _ (by omega) (by omega) (by omega) (by omega) (by omega))
    simp only [joistref04_Sum.l0]
    rw [if_pos (by omega), if_pos (by omega), w64 (x := rd l i) (by omega) (by omega), w64 (x := x + rd l i) (by omega) (by omega), tmod_pos (a := x + rd l i) (by omega), w64 (x := y + _) (by omega) (by omega), tmod_pos (a := y + _) (by omega), w64 (x := (i : Int) + 1) (by omega) (by omega)]
    rfl
theorem ev_refsum {l : List Int} (hb : Byt l) (hn : l.length ≤ 140737488355328) : Ev (fun k => joistref04_Sum.f k l) (sumOf l) := by
  have := refsum_l0 l hb hn l.length 0 1 0 (by omega) (by omega) (by omega) (by omega) (by omega)
  rwa [List.drop_zero] at this
theorem four_some {s : Int} (h0 : 0 ≤ s) (h1 : s < 4294967296) : joistref04_four.f s = some (endOf s) := by
  unfold joistref04_four.f endOf
  have d : ∀ m : Int, 0 < m → Int.tdiv s m = s / m := fun m hm => Int.tdiv_eq_ediv_of_nonneg h0
  rw [d 16777216 (by omega), d 65536 (by omega), d 256 (by omega), w64 (x := s / 16777216) (by omega) (by omega), w64 (x := s / 65536) (by omega) (by omega), w64 (x := s / 256) (by omega) (by omega), tmod_pos (a := s / 16777216) (by omega), tmod_pos (a := s / 65536) (by omega), tmod_pos (a := s / 256) (by omega), tmod_pos (a := s) (by omega)]
  simp only [Int.emod_emod]
theorem ev_refnum {n : Int} (h0 : 0 ≤ n) (h1 : n < 16384) : Ev (fun k => joistref03_Num.f k n) (numOf n) := by
  refine Ev.congr (f := fun k => joistref03_Num.l0 k n []) (fun k => by unfold joistref03_Num.f; simp only [Option.bind_some]; rw [if_neg (by omega)]) ?_
  unfold numOf
  by_cases h : n < 128
  · rw [if_pos h]
    refine Ev.step (f := fun _ => some [n]) (fun k => ?_) (Ev.now _)
    simp only [joistref03_Num.l0]
    rw [if_neg (by omega), if_pos (by simp)]
    simp only [List.nil_append]
    rw [Int.emod_eq_of_lt h0 (by omega)]
  · rw [if_neg h]
    refine Ev.step (f := fun k => joistref03_Num.l0 k (n / 128) [n % 128 + 128]) (fun k => ?_) ?_
    · simp only [joistref03_Num.l0]
      rw [if_pos (by omega), if_pos (by simp), Int.tdiv_eq_ediv_of_nonneg h0, tmod_pos h0, w64 (x := n / 128) (by omega) (by omega), w64 (x := 128 + n % 128) (by omega) (by omega)]
      simp only [List.nil_append]
      rw [Int.emod_eq_of_lt (by omega) (by omega), Int.add_comm 128]
    · refine Ev.step (f := fun _ => some [n % 128 + 128, n / 128]) (fun k => ?_) (Ev.now _)
      simp only [joistref03_Num.l0]
      rw [if_neg (by omega), if_pos (by simp)]
      simp only [List.cons_append, List.nil_append]
      rw [Int.emod_eq_of_lt (a := n / 128) (by omega) (by omega)]
theorem ev_refframe {l : List Int} (hb : Byt l) (hn : l.length ≤ 4000) : Ev (fun k => joistref04_Frame.f k l) (frameOf l, true) := by
  have hl : (numOf (l.length : Int)).length ≤ 2 := by unfold numOf; split <;> simp
  have hr := sumOf_range l
  refine Ev.congr (f := fun k => (joistref03_Num.f k (l.length : Int)).bind fun t217 => (if t217.length + l.length < 140737488355328 then ((some (t217 ++ l : List Int)).bind fun y220 => ((joistref04_Sum.f k l).bind fun t223 => ((joistref04_four.f t223).bind fun t224 => (if y220.length + t224.length < 140737488355328 then (some ((y220 ++ t224), true)) else (none))))) else (none))) (fun k => by unfold joistref04_Frame.f; rw [if_neg (by omega)]) ?_
  refine Ev.bind (ev_refnum (by omega) (by omega)) ?_
  have b1 : (numOf (l.length : Int)).length + l.length < 140737488355328 := by omega
  have b2 : (numOf (l.length : Int) ++ l).length + (endOf (sumOf l)).length < 140737488355328 := by rw [List.length_append, endOf_length]; omega
  simp only [if_pos b1, Option.bind_some]
  refine Ev.bind (ev_refsum hb (by omega)) ?_
  simp only [four_some hr.1 hr.2, Option.bind_some, if_pos b2]
  exact Ev.congr (fun _ => by rw [frameOf, List.append_assoc]) (Ev.now _)
theorem open_l0 (l : List Int) (hn : l.length ≤ 140737488355328) : ∀ (d i : Nat), i + d = l.length →
    Ev (fun k => joistref04_open.l0 k l (i : Int)) (decide (l.length ≤ 8) && !anyLow (l.drop i)) := by
  intro d
  induction d with
  | zero =>
    intro i hi
    rw [List.drop_eq_nil_of_le (by omega)]
    refine Ev.step (f := fun _ => some (decide (l.length ≤ 8) && !anyLow [])) (fun k => ?_) (Ev.now _)
    simp only [joistref04_open.l0]
    rw [if_neg (by omega)]
    simp [anyLow]
    omega
  | succ d ih =>
    intro i hi
    rw [drop_rd l i (by omega)]
    by_cases h : rd l (i : Int) < 128
    · rw [show anyLow (rd l (i : Int) :: l.drop (i + 1)) = true by simp [anyLow, h]]
      refine Ev.step (f := fun _ => some false) (fun k => ?_) (Ev.congr (fun _ => by simp) (Ev.now _))
      simp only [joistref04_open.l0]
      rw [if_pos (by omega), if_pos (by omega), if_pos h]
    · rw [show anyLow (rd l (i : Int) :: l.drop (i + 1)) = anyLow (l.drop (i + 1)) by simp [anyLow, h]]
      refine Ev.step (f := fun k => joistref04_open.l0 k l ((i + 1 : Nat) : Int)) (fun k => ?_) (ih (i + 1) (by omega))
      simp only [joistref04_open.l0]
      rw [if_pos (by omega), if_pos (by omega), if_neg h, w64 (by omega) (by omega)]
      rfl
theorem ev_open {l : List Int} (hn : l.length ≤ 140737488355328) : Ev (fun k => joistref04_open.f k l) (decide (l.length ≤ 8 ∧ anyLow l = false)) := by
  have := open_l0 l hn l.length 0 (by omega)
  rw [List.drop_zero] at this
  rw [show decide (l.length ≤ 8 ∧ anyLow l = false) = (decide (l.length ≤ 8) && !anyLow l) by cases anyLow l <;> simp]
  exact this
theorem ref_end (l : List Int) (n p : Int) (i : Nat) (hi : min l.length 9 ≤ i) (k : Nat) : joistref03_Take.l0 (k + 2) l n p (i : Int) = some (0, [], false) := by
  by_cases h : (i : Int) < (l.length : Int)
  · simp only [joistref03_Take.l0]
    rw [if_pos h, decide_eq_false (by omega)]
    simp only [joistref03_Take.j1]
    rw [if_neg (by decide)]
  · simp only [joistref03_Take.l0]
    rw [if_neg h]
    simp only [joistref03_Take.j1]
    rw [if_neg (by decide)]
theorem ref_round (l : List Int) (hb : Byt l) (hn : l.length < 140737488355328) (n p : Int) (i : Nat) (hi : i < min l.length 9) (h0 : 0 ≤ n) (h1 : n < p) (hp : p * 128 ≤ 9223372036854775808) (k : Nat) :
    joistref03_Take.l0 (k + 2) l n p (i : Int) =
      if rd l (i : Int) < 128 then (if 0 < i ∧ rd l (i : Int) = 0 then some (0, [], false) else some (n + rd l (i : Int) * p, l.drop (i + 1), true))
      else joistref03_Take.l0 k l (n + (rd l (i : Int) - 128) * p) (wrap64 (p * 128)) ((i + 1 : Nat) : Int) := by
  obtain ⟨hc0, hc1⟩ := rd_byt hb i (by omega)
  have hw1 : wrap64 ((i : Int) + 1) = ((i + 1 : Nat) : Int) := by rw [w64 (by omega) (by omega)]; rfl
  have hp0 : 0 < p := by omega
  have hm0 : 0 ≤ rd l (i : Int) % 128 * p := Int.mul_nonneg (by omega) (by omega)
  have hm1 : rd l (i : Int) % 128 * p ≤ 127 * p := Int.mul_le_mul_of_nonneg_right (by omega) (by omega)
  have hadd : wrap64 (n + wrap64 (wrap64 (Int.tmod (rd l (i : Int)) 128) * p)) = n + rd l (i : Int) % 128 * p := by
    rw [tmod_pos hc0, w64 (x := rd l (i : Int) % 128) (by omega) (by omega), w64 (x := rd l (i : Int) % 128 * p) (by omega) (by omega), w64 (by omega) (by omega)]
  have a1 : (i : Int) < (l.length : Int) := by omega
  have a2 : (0 : Int) ≤ (i : Int) := by omega
  have a3 : (0 : Int) ≤ ((i + 1 : Nat) : Int) := by omega
  have a4 : ((i + 1 : Nat) : Int) ≤ (l.length : Int) := by omega
  have a5 : (i : Int) > 0 ↔ 0 < i := by omega
  have a6 : (i : Int) < 9 := by omega
  have hcl : joistref00_CopyBytes.f (l.drop (i + 1)) = some (l.drop (i + 1)) := copy_some (by rw [List.length_drop]; omega)
  have hj : ∀ k, joistref03_Take.l0 (k + 2) l n p (i : Int) = joistref03_Take.j1 (k + 1) l n p (i : Int) true := by
    intro k
    simp only [joistref03_Take.l0]
    rw [if_pos a1, decide_eq_true a6]
  rw [hj]
  simp only [joistref03_Take.j1]
  rw [if_pos trivial, if_pos a2, if_pos a1, hadd, hw1, if_pos a3, if_pos a4, Int.toNat_natCast, hcl]
  simp only [Option.bind_some]
  by_cases hc : rd l (i : Int) < 128
  · rw [if_pos hc, if_pos hc, Int.emod_eq_of_lt hc0 hc]
    by_cases hi0 : 0 < i
    · rw [if_pos (a5.2 hi0)]
      by_cases hz : rd l (i : Int) = 0
      · rw [if_pos hz, if_pos ⟨hi0, hz⟩]
      · rw [if_neg hz, if_neg (fun h => hz h.2)]
    · rw [if_neg (fun h => hi0 (a5.1 h)), if_neg (fun h => hi0 h.1)]
  · rw [if_neg hc, if_neg hc]
    rw [show rd l (i : Int) % 128 = rd l (i : Int) - 128 by omega]
theorem ref_l0 (l : List Int) (hb : Byt l) (hn : l.length < 140737488355328) : ∀ (d i : Nat) (n p : Int), i + d = min l.length 9 → (i < min l.length 9 → p = pw i ∧ 0 ≤ n ∧ n < p) →
    Ev (fun k => joistref03_Take.l0 k l n p (i : Int)) (tk (9 - i) n (pw i) (l.drop i)) := by
  intro d
  induction d with
  | zero =>
    intro i n p hi _
    rw [tk_end _ _ _ _ (by
      rcases Nat.lt_or_ge i 9 with h | h
      · exact .inr (List.drop_eq_nil_of_le (by omega))
      · exact .inl (by omega))]
    exact ⟨2, fun k hk => by obtain ⟨m, rfl⟩ : ∃ m, k = m + 2 := ⟨k - 2, by omega⟩; exact ref_end l n p i (by omega) m⟩
  | succ d ih =>
    intro i n p hi hp
    obtain ⟨rfl, h0, h1⟩ := hp (by omega)
    have hlt : i < l.length := by omega
    obtain ⟨j, hj⟩ : ∃ j, 9 - i = j + 1 := ⟨9 - i - 1, by omega⟩
    have hj2 : j = 9 - (i + 1) := by omega
    obtain ⟨hc0, hc1⟩ := rd_byt hb i hlt
    have hone : pw i > 1 ↔ 0 < i := ⟨fun h => by
      cases i with
      | zero => exact absurd h (by decide)
      | succ i => exact Nat.succ_pos i, pw_one i⟩
    have hrr := ref_round l hb hn n (pw i) i (by omega) h0 h1 (pw_le i (by omega))
    have hpp := pw_pos i
    have ihi := ih (i + 1) (n + (rd l (i : Int) - 128) * pw i) (wrap64 (pw i * 128)) (by omega)
    rw [drop_rd l i hlt, hj]
    simp only [tk]
    clear ih
    by_cases hc : rd l (i : Int) < 128
    · simp only [if_pos hc, hone] at hrr ⊢
      refine ⟨2, fun k hk => ?_⟩
      obtain ⟨m, rfl⟩ : ∃ m, k = m + 2 := ⟨k - 2, by omega⟩
      refine (hrr m).trans ?_
      split <;> rfl
    · simp only [if_neg hc] at hrr ⊢
      rw [hj2]
      have h2 := ihi (fun hi1 => ?_)
      · obtain ⟨K, hK⟩ := h2
        refine ⟨K + 2, fun k hk => ?_⟩
        obtain ⟨m, rfl⟩ : ∃ m, k = m + 2 := ⟨k - 2, by omega⟩
        refine (hrr m).trans ?_
        exact hK m (by omega)
      · have e1 : 0 ≤ (rd l (i : Int) - 128) * pw i := Int.mul_nonneg (by omega) (by omega)
        have e2 : (rd l (i : Int) - 128) * pw i ≤ 127 * pw i := Int.mul_le_mul_of_nonneg_right (by omega) (by omega)
        have e3 : pw i * 128 * 128 ≤ 9223372036854775808 := pw_le (i + 1) (by omega)
        rw [w64 (by omega) (by omega)]
        exact ⟨rfl, by omega, by omega⟩
theorem ev_reftake {l : List Int} (hb : Byt l) (hn : l.length < 140737488355328) : Ev (fun k => joistref03_Take.f k l) (takeOf l) := by
  have := ref_l0 l hb hn (min l.length 9) 0 0 1 (by omega) (fun _ => ⟨rfl, by omega, by decide⟩)
  rw [List.drop_zero] at this
  exact this
theorem ev_refnext {l : List Int} (hb : Byt l) (hn : l.length < 140737488351232) : Ev (fun k => joistref04_Next.f k l) (nextOf l) := by
  unfold nextOf
  refine Ev.congr (f := fun k => (joistref04_open.f k l).bind fun t242 => (if t242 = true then (some (([] : List Int), ([] : List Int), 1)) else ((joistref03_Take.f k l).bind fun bt243 => (if bt243.2.2 = true then (joistref04_Next.j0 k bt243.1 bt243.2.1 (decide (bt243.1 > 65536))) else (joistref04_Next.j0 k bt243.1 bt243.2.1 true))))) (fun k => rfl) (Ev.bind (ev_open (by omega)) ?_)
  by_cases hg : l.length ≤ 8 ∧ anyLow l = false
  · rw [if_pos hg]
    exact Ev.congr (fun k => by rw [decide_eq_true hg]; rfl) (Ev.now _)
  · rw [if_neg hg]
    obtain ⟨hn0, hrb, hrl, hrt⟩ := tk_spec 9 0 1 l (by omega) (by omega) hb
    refine Ev.congr (f := fun k => (joistref03_Take.f k l).bind fun bt135 => (if bt135.2.2 = true then (joistref04_Next.j0 k bt135.1 bt135.2.1 (decide (bt135.1 > 65536))) else (joistref04_Next.j0 k bt135.1 bt135.2.1 true))) (fun k => by rw [decide_eq_false hg]; rfl) (Ev.bind (ev_reftake hb (by omega)) ?_)
    rw [show tk 9 0 1 l = takeOf l from rfl] at hn0 hrb hrl hrt
    generalize takeOf l = T at *
    obtain ⟨n, rest, ok⟩ := T
    simp only at *
    cases ok with
    | false =>
      simp only [true_or, if_true]
      refine Ev.congr (fun k => if_neg (by decide)) (Ev.step (f := fun _ => some ([], [], 2)) (fun k => ?_) (Ev.now _))
      simp only [joistref04_Next.j0, if_true]
    | true =>
      simp only [if_true, Bool.true_eq_false, false_or]
      by_cases h65 : n > 65536
      · rw [if_pos h65, decide_eq_true h65]
        refine Ev.step (f := fun _ => some ([], [], 2)) (fun k => ?_) (Ev.now _)
        simp only [joistref04_Next.j0, if_true]
      · rw [if_neg h65, decide_eq_false h65]
        obtain ⟨m, rfl⟩ := Int.eq_ofNat_of_zero_le hn0
        have hw : wrap64 ((m : Int) + 4) = ((m + 4 : Nat) : Int) := by rw [w64 (by omega) (by omega)]; rfl
        simp only [Int.toNat_natCast]
        by_cases hs : (rest.length : Int) < (m : Int) + 4
        · rw [if_pos hs]
          refine Ev.step (f := fun _ => some ([], [], 1)) (fun k => ?_) (Ev.now _)
          simp only [joistref04_Next.j0]
          rw [if_neg (by decide), hw, if_pos (by omega)]
        · rw [if_neg hs]
          have hr := sumOf_range (rest.take m)
          have c1 : joistref00_CopyBytes.f (rest.take m) = some (rest.take m) := copy_some (by rw [List.length_take]; omega)
          have c2 : joistref00_CopyBytes.f (rest.drop (m + 4)) = some (rest.drop (m + 4)) := copy_some (by rw [List.length_drop]; omega)
          have hen : ∀ k, joistref04_Next.j0 (k + 1) (m : Int) rest false = (joistref04_Sum.f k (rest.take m)).bind fun t252 => ((joistref04_four.f t252).bind fun t253 => ((joistref00_SameBytes.f k t253 ((rest.take (m + 4)).drop m)).bind fun t260 => (if t260 = true then (some (rest.take m, rest.drop (m + 4), 0)) else (some (([] : List Int), ([] : List Int), 2))))) := by
            intro k
            simp only [joistref04_Next.j0]
            have b1 : (m : Int) ≤ ((m + 4 : Nat) : Int) := by omega
            have b2 : ((m + 4 : Nat) : Int) ≤ (rest.length : Int) := by omega
            have b3 : (0 : Int) ≤ ((m + 4 : Nat) : Int) := by omega
            rw [if_neg (by decide), hw, if_neg (by omega), if_pos (by omega), if_pos (by omega)]
            simp only [if_pos b1, if_pos b2, if_pos b3, Int.toNat_natCast, c1, c2, Option.bind_some]
          refine Ev.step hen (Ev.bind (ev_refsum (byt_take hrb m) (by rw [List.length_take]; omega)) ?_)
          simp only [four_some hr.1 hr.2, Option.bind_some]
          refine Ev.bind (ev_same _ _ (by rw [endOf_length]; omega)) ?_
          by_cases he : endOf (sumOf (rest.take m)) = (rest.take (m + 4)).drop m
          · simp only [if_neg (show ¬ (endOf (sumOf (rest.take m)) ≠ (rest.take (m + 4)).drop m) from fun h => h he), decide_eq_true he, if_true]
            exact Ev.now _
          · simp only [if_pos (show endOf (sumOf (rest.take m)) ≠ (rest.take (m + 4)).drop m from he), decide_eq_false he]
            exact Ev.now _
end Go.Proofs.Ytjfmnjhkpkcakaa.Pure
