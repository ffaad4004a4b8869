/- Events: their words are read as they; a line's words; lines read: plain. -/
import Derived.Test.YtkogcobcjoojnaaGreatDoorPC
import Derived.Lib.Builder
import Derived.Laws.AppendOwn
import Derived.Maps.AppendAt
namespace Go.Proofs.YtkogcobcjoojnaaGreatDoor.Fl
open Go.RowKit Go.Maps
set_option linter.unusedVariables false
set_option linter.unusedSimpArgs false
/-- What telling means. -/
structure ToldE (e : EvE) : Prop where
  k : 1 ≤ e.kind ∧ e.kind ≤ 13
  n : ∀ i, i < 8 → (0 ≤ e.nums.getD i 0 ∧ e.nums.getD i 0 ≤ 1099511627776) ∧ ((fieldsK e.kind).contains i = true ∨ e.nums.getD i 0 = 0)
  s : e.stays = true → e.kind = 6
  q : e.kind = 1 → reqOk e.req = true
  q0 : ¬ e.kind = 1 → e.req = noReq
  c : e.kind = 2 → chgOk e.chg = true
  c0 : ¬ e.kind = 2 → e.chg = noChg
theorem told_eq {e : EvE} (h : told e = true) : ToldE e := by
  unfold told at h
  rw [Bool.and_eq_true, Bool.and_eq_true, Bool.and_eq_true, Bool.and_eq_true] at h
  obtain ⟨⟨⟨⟨h1, h2⟩, h3⟩, h4⟩, h5⟩ := h
  refine ⟨within_eq h1, fun i hi => ?_, fun hs => ?_, fun hk => ?_, fun hk => ?_, fun hk => ?_, fun hk => ?_⟩
  · unfold numsOk at h2
    have := List.all_eq_true.1 h2 i (List.mem_range.2 hi)
    rw [Bool.and_eq_true, Bool.or_eq_true, beq_iff_eq] at this
    exact ⟨within_eq this.1, this.2⟩
  · rw [hs] at h3
    simpa using h3
  · rwa [if_pos hk] at h4
  · rw [if_neg hk] at h4
    exact reqNo_eq h4
  · rwa [if_pos hk] at h5
  · rw [if_neg hk] at h5
    exact chgNo_eq h5
theorem r_ev (e : EvE) (hw : ReqW e.req) (h : told e = true) : ∃ r, rEv (wEv e) = some (e, r) := by
  have hT := told_eq h
  obtain ⟨k, n0, n1, n2, n3, n4, n5, n6, n7, st, q, c⟩ := e
  obtain ⟨hk, hn, hs, hq, hq0, hc, hc0⟩ := hT
  have hk : 1 ≤ k ∧ k ≤ 13 := hk
  have w0 := hn 0 (by decide)
  have w1 := hn 1 (by decide)
  have w2 := hn 2 (by decide)
  have w3 := hn 3 (by decide)
  have w4 := hn 4 (by decide)
  have w5 := hn 5 (by decide)
  have w6 := hn 6 (by decide)
  have w7 := hn 7 (by decide)
  simp only [EvE.nums, List.getD_cons_zero, List.getD_cons_succ] at w0 w1 w2 w3 w4 w5 w6 w7
  clear hn h
  have z : ∀ {n : Int}, (0 ≤ n ∧ n ≤ 1099511627776) → Wf n := fun h => by unfold Wf; omega
  unfold rEv wEv
  rw [then_some (one_ev hk.1 hk.2 _)]
  refine ⟨if k = 6 ∧ st = true then [wStays] else [], ?_⟩
  obtain rfl | rfl | rfl | rfl | rfl | rfl | rfl | rfl | rfl | rfl | rfl | rfl | rfl : k = 1 ∨ k = 2 ∨ k = 3 ∨ k = 4 ∨ k = 5 ∨ k = 6 ∨ k = 7 ∨ k = 8 ∨ k = 9 ∨ k = 10 ∨ k = 11 ∨ k = 12 ∨ k = 13 := by omega
  · obtain rfl : n1 = 0 := by rcases w1.2 with h | h; (· exact absurd h (by decide)); (· exact h)
    obtain rfl : n2 = 0 := by rcases w2.2 with h | h; (· exact absurd h (by decide)); (· exact h)
    obtain rfl : n3 = 0 := by rcases w3.2 with h | h; (· exact absurd h (by decide)); (· exact h)
    obtain rfl : n4 = 0 := by rcases w4.2 with h | h; (· exact absurd h (by decide)); (· exact h)
    obtain rfl : n5 = 0 := by rcases w5.2 with h | h; (· exact absurd h (by decide)); (· exact h)
    obtain rfl : c = noChg := hc0 (by show ¬ (1 : Int) = 2; decide)
    obtain rfl : st = false := by cases st with | false => rfl | true => exact absurd (hs rfl) (by show ¬ (1 : Int) = 6; decide)
    show (rNums [0, 6, 7] [0, 0, 0, 0, 0, 0, 0, 0]).then _ (wNum n0 :: wNum n6 :: wNum n7 :: wReq q) = _
    have hN : rNums [0, 6, 7] [0, 0, 0, 0, 0, 0, 0, 0] (wNum n0 :: wNum n6 :: wNum n7 :: wReq q) = some ([n0, 0, 0, 0, 0, 0, n6, n7], wReq q) := by
      rw [rNums, then_some (r_num (z w0.1) _)]
      rw [rNums, then_some (r_num (z w6.1) _)]
      rw [rNums, then_some (r_num (z w7.1) _)]
      rfl
    rw [then_some hN]
    rw [if_pos rfl, then_some (r_req q hw (hq rfl))]
    rfl
  · obtain rfl : n1 = 0 := by rcases w1.2 with h | h; (· exact absurd h (by decide)); (· exact h)
    obtain rfl : n2 = 0 := by rcases w2.2 with h | h; (· exact absurd h (by decide)); (· exact h)
    obtain rfl : n3 = 0 := by rcases w3.2 with h | h; (· exact absurd h (by decide)); (· exact h)
    obtain rfl : n4 = 0 := by rcases w4.2 with h | h; (· exact absurd h (by decide)); (· exact h)
    obtain rfl : n5 = 0 := by rcases w5.2 with h | h; (· exact absurd h (by decide)); (· exact h)
    obtain rfl : q = noReq := hq0 (by show ¬ (2 : Int) = 1; decide)
    obtain rfl : st = false := by cases st with | false => rfl | true => exact absurd (hs rfl) (by show ¬ (2 : Int) = 6; decide)
    show (rNums [0, 6, 7] [0, 0, 0, 0, 0, 0, 0, 0]).then _ (wNum n0 :: wNum n6 :: wNum n7 :: wChg c) = _
    have hN : rNums [0, 6, 7] [0, 0, 0, 0, 0, 0, 0, 0] (wNum n0 :: wNum n6 :: wNum n7 :: wChg c) = some ([n0, 0, 0, 0, 0, 0, n6, n7], wChg c) := by
      rw [rNums, then_some (r_num (z w0.1) _)]
      rw [rNums, then_some (r_num (z w6.1) _)]
      rw [rNums, then_some (r_num (z w7.1) _)]
      rfl
    rw [then_some hN]
    rw [if_neg (by decide), if_pos rfl, then_some (r_chg c (hc rfl))]
    rfl
  · obtain rfl : n3 = 0 := by rcases w3.2 with h | h; (· exact absurd h (by decide)); (· exact h)
    obtain rfl : n4 = 0 := by rcases w4.2 with h | h; (· exact absurd h (by decide)); (· exact h)
    obtain rfl : n5 = 0 := by rcases w5.2 with h | h; (· exact absurd h (by decide)); (· exact h)
    obtain rfl : n6 = 0 := by rcases w6.2 with h | h; (· exact absurd h (by decide)); (· exact h)
    obtain rfl : n7 = 0 := by rcases w7.2 with h | h; (· exact absurd h (by decide)); (· exact h)
    obtain rfl : q = noReq := hq0 (by show ¬ (3 : Int) = 1; decide)
    obtain rfl : c = noChg := hc0 (by show ¬ (3 : Int) = 2; decide)
    obtain rfl : st = false := by cases st with | false => rfl | true => exact absurd (hs rfl) (by show ¬ (3 : Int) = 6; decide)
    show (rNums [0, 1, 2] [0, 0, 0, 0, 0, 0, 0, 0]).then _ (wNum n0 :: wNum n1 :: wNum n2 :: []) = _
    have hN : rNums [0, 1, 2] [0, 0, 0, 0, 0, 0, 0, 0] (wNum n0 :: wNum n1 :: wNum n2 :: []) = some ([n0, n1, n2, 0, 0, 0, 0, 0], []) := by
      rw [rNums, then_some (r_num (z w0.1) _)]
      rw [rNums, then_some (r_num (z w1.1) _)]
      rw [rNums, then_some (r_num (z w2.1) _)]
      rfl
    rw [then_some hN]
    rw [if_neg (by decide), if_neg (by decide), if_neg (by decide)]
    rfl
  · obtain rfl : n2 = 0 := by rcases w2.2 with h | h; (· exact absurd h (by decide)); (· exact h)
    obtain rfl : n3 = 0 := by rcases w3.2 with h | h; (· exact absurd h (by decide)); (· exact h)
    obtain rfl : n4 = 0 := by rcases w4.2 with h | h; (· exact absurd h (by decide)); (· exact h)
    obtain rfl : n5 = 0 := by rcases w5.2 with h | h; (· exact absurd h (by decide)); (· exact h)
    obtain rfl : n6 = 0 := by rcases w6.2 with h | h; (· exact absurd h (by decide)); (· exact h)
    obtain rfl : n7 = 0 := by rcases w7.2 with h | h; (· exact absurd h (by decide)); (· exact h)
    obtain rfl : q = noReq := hq0 (by show ¬ (4 : Int) = 1; decide)
    obtain rfl : c = noChg := hc0 (by show ¬ (4 : Int) = 2; decide)
    obtain rfl : st = false := by cases st with | false => rfl | true => exact absurd (hs rfl) (by show ¬ (4 : Int) = 6; decide)
    show (rNums [0, 1] [0, 0, 0, 0, 0, 0, 0, 0]).then _ (wNum n0 :: wNum n1 :: []) = _
    have hN : rNums [0, 1] [0, 0, 0, 0, 0, 0, 0, 0] (wNum n0 :: wNum n1 :: []) = some ([n0, n1, 0, 0, 0, 0, 0, 0], []) := by
      rw [rNums, then_some (r_num (z w0.1) _)]
      rw [rNums, then_some (r_num (z w1.1) _)]
      rfl
    rw [then_some hN]
    rw [if_neg (by decide), if_neg (by decide), if_neg (by decide)]
    rfl
  · obtain rfl : n2 = 0 := by rcases w2.2 with h | h; (· exact absurd h (by decide)); (· exact h)
    obtain rfl : n3 = 0 := by rcases w3.2 with h | h; (· exact absurd h (by decide)); (· exact h)
    obtain rfl : n4 = 0 := by rcases w4.2 with h | h; (· exact absurd h (by decide)); (· exact h)
    obtain rfl : n5 = 0 := by rcases w5.2 with h | h; (· exact absurd h (by decide)); (· exact h)
    obtain rfl : n6 = 0 := by rcases w6.2 with h | h; (· exact absurd h (by decide)); (· exact h)
    obtain rfl : n7 = 0 := by rcases w7.2 with h | h; (· exact absurd h (by decide)); (· exact h)
    obtain rfl : q = noReq := hq0 (by show ¬ (5 : Int) = 1; decide)
    obtain rfl : c = noChg := hc0 (by show ¬ (5 : Int) = 2; decide)
    obtain rfl : st = false := by cases st with | false => rfl | true => exact absurd (hs rfl) (by show ¬ (5 : Int) = 6; decide)
    show (rNums [0, 1] [0, 0, 0, 0, 0, 0, 0, 0]).then _ (wNum n0 :: wNum n1 :: []) = _
    have hN : rNums [0, 1] [0, 0, 0, 0, 0, 0, 0, 0] (wNum n0 :: wNum n1 :: []) = some ([n0, n1, 0, 0, 0, 0, 0, 0], []) := by
      rw [rNums, then_some (r_num (z w0.1) _)]
      rw [rNums, then_some (r_num (z w1.1) _)]
      rfl
    rw [then_some hN]
    rw [if_neg (by decide), if_neg (by decide), if_neg (by decide)]
    rfl
  · obtain rfl : n0 = 0 := by rcases w0.2 with h | h; (· exact absurd h (by decide)); (· exact h)
    obtain rfl : n1 = 0 := by rcases w1.2 with h | h; (· exact absurd h (by decide)); (· exact h)
    obtain rfl : n2 = 0 := by rcases w2.2 with h | h; (· exact absurd h (by decide)); (· exact h)
    obtain rfl : n4 = 0 := by rcases w4.2 with h | h; (· exact absurd h (by decide)); (· exact h)
    obtain rfl : n5 = 0 := by rcases w5.2 with h | h; (· exact absurd h (by decide)); (· exact h)
    obtain rfl : n6 = 0 := by rcases w6.2 with h | h; (· exact absurd h (by decide)); (· exact h)
    obtain rfl : n7 = 0 := by rcases w7.2 with h | h; (· exact absurd h (by decide)); (· exact h)
    obtain rfl : q = noReq := hq0 (by show ¬ (6 : Int) = 1; decide)
    obtain rfl : c = noChg := hc0 (by show ¬ (6 : Int) = 2; decide)
    show (rNums [3] [0, 0, 0, 0, 0, 0, 0, 0]).then _ (wNum n3 :: (if (6 : Int) = 6 ∧ st = true then [wStays] else [])) = _
    have hN : rNums [3] [0, 0, 0, 0, 0, 0, 0, 0] (wNum n3 :: (if (6 : Int) = 6 ∧ st = true then [wStays] else [])) = some ([0, 0, 0, n3, 0, 0, 0, 0], (if (6 : Int) = 6 ∧ st = true then [wStays] else [])) := by
      rw [rNums, then_some (r_num (z w3.1) _)]
      rfl
    rw [then_some hN]
    rw [if_neg (by decide), if_neg (by decide), if_pos rfl]
    cases st with
    | false => rfl
    | true => rfl
  · obtain rfl : n0 = 0 := by rcases w0.2 with h | h; (· exact absurd h (by decide)); (· exact h)
    obtain rfl : n1 = 0 := by rcases w1.2 with h | h; (· exact absurd h (by decide)); (· exact h)
    obtain rfl : n2 = 0 := by rcases w2.2 with h | h; (· exact absurd h (by decide)); (· exact h)
    obtain rfl : n4 = 0 := by rcases w4.2 with h | h; (· exact absurd h (by decide)); (· exact h)
    obtain rfl : n5 = 0 := by rcases w5.2 with h | h; (· exact absurd h (by decide)); (· exact h)
    obtain rfl : n6 = 0 := by rcases w6.2 with h | h; (· exact absurd h (by decide)); (· exact h)
    obtain rfl : n7 = 0 := by rcases w7.2 with h | h; (· exact absurd h (by decide)); (· exact h)
    obtain rfl : q = noReq := hq0 (by show ¬ (7 : Int) = 1; decide)
    obtain rfl : c = noChg := hc0 (by show ¬ (7 : Int) = 2; decide)
    obtain rfl : st = false := by cases st with | false => rfl | true => exact absurd (hs rfl) (by show ¬ (7 : Int) = 6; decide)
    show (rNums [3] [0, 0, 0, 0, 0, 0, 0, 0]).then _ (wNum n3 :: []) = _
    have hN : rNums [3] [0, 0, 0, 0, 0, 0, 0, 0] (wNum n3 :: []) = some ([0, 0, 0, n3, 0, 0, 0, 0], []) := by
      rw [rNums, then_some (r_num (z w3.1) _)]
      rfl
    rw [then_some hN]
    rw [if_neg (by decide), if_neg (by decide), if_neg (by decide)]
    rfl
  · obtain rfl : n1 = 0 := by rcases w1.2 with h | h; (· exact absurd h (by decide)); (· exact h)
    obtain rfl : n2 = 0 := by rcases w2.2 with h | h; (· exact absurd h (by decide)); (· exact h)
    obtain rfl : n3 = 0 := by rcases w3.2 with h | h; (· exact absurd h (by decide)); (· exact h)
    obtain rfl : n5 = 0 := by rcases w5.2 with h | h; (· exact absurd h (by decide)); (· exact h)
    obtain rfl : n6 = 0 := by rcases w6.2 with h | h; (· exact absurd h (by decide)); (· exact h)
    obtain rfl : n7 = 0 := by rcases w7.2 with h | h; (· exact absurd h (by decide)); (· exact h)
    obtain rfl : q = noReq := hq0 (by show ¬ (8 : Int) = 1; decide)
    obtain rfl : c = noChg := hc0 (by show ¬ (8 : Int) = 2; decide)
    obtain rfl : st = false := by cases st with | false => rfl | true => exact absurd (hs rfl) (by show ¬ (8 : Int) = 6; decide)
    show (rNums [0, 4] [0, 0, 0, 0, 0, 0, 0, 0]).then _ (wNum n0 :: wNum n4 :: []) = _
    have hN : rNums [0, 4] [0, 0, 0, 0, 0, 0, 0, 0] (wNum n0 :: wNum n4 :: []) = some ([n0, 0, 0, 0, n4, 0, 0, 0], []) := by
      rw [rNums, then_some (r_num (z w0.1) _)]
      rw [rNums, then_some (r_num (z w4.1) _)]
      rfl
    rw [then_some hN]
    rw [if_neg (by decide), if_neg (by decide), if_neg (by decide)]
    rfl
  · obtain rfl : n1 = 0 := by rcases w1.2 with h | h; (· exact absurd h (by decide)); (· exact h)
    obtain rfl : n2 = 0 := by rcases w2.2 with h | h; (· exact absurd h (by decide)); (· exact h)
    obtain rfl : n3 = 0 := by rcases w3.2 with h | h; (· exact absurd h (by decide)); (· exact h)
    obtain rfl : n4 = 0 := by rcases w4.2 with h | h; (· exact absurd h (by decide)); (· exact h)
    obtain rfl : n6 = 0 := by rcases w6.2 with h | h; (· exact absurd h (by decide)); (· exact h)
    obtain rfl : n7 = 0 := by rcases w7.2 with h | h; (· exact absurd h (by decide)); (· exact h)
    obtain rfl : q = noReq := hq0 (by show ¬ (9 : Int) = 1; decide)
    obtain rfl : c = noChg := hc0 (by show ¬ (9 : Int) = 2; decide)
    obtain rfl : st = false := by cases st with | false => rfl | true => exact absurd (hs rfl) (by show ¬ (9 : Int) = 6; decide)
    show (rNums [0, 5] [0, 0, 0, 0, 0, 0, 0, 0]).then _ (wNum n0 :: wNum n5 :: []) = _
    have hN : rNums [0, 5] [0, 0, 0, 0, 0, 0, 0, 0] (wNum n0 :: wNum n5 :: []) = some ([n0, 0, 0, 0, 0, n5, 0, 0], []) := by
      rw [rNums, then_some (r_num (z w0.1) _)]
      rw [rNums, then_some (r_num (z w5.1) _)]
      rfl
    rw [then_some hN]
    rw [if_neg (by decide), if_neg (by decide), if_neg (by decide)]
    rfl
  · obtain rfl : n1 = 0 := by rcases w1.2 with h | h; (· exact absurd h (by decide)); (· exact h)
    obtain rfl : n2 = 0 := by rcases w2.2 with h | h; (· exact absurd h (by decide)); (· exact h)
    obtain rfl : n3 = 0 := by rcases w3.2 with h | h; (· exact absurd h (by decide)); (· exact h)
    obtain rfl : n4 = 0 := by rcases w4.2 with h | h; (· exact absurd h (by decide)); (· exact h)
    obtain rfl : n5 = 0 := by rcases w5.2 with h | h; (· exact absurd h (by decide)); (· exact h)
    obtain rfl : n6 = 0 := by rcases w6.2 with h | h; (· exact absurd h (by decide)); (· exact h)
    obtain rfl : n7 = 0 := by rcases w7.2 with h | h; (· exact absurd h (by decide)); (· exact h)
    obtain rfl : q = noReq := hq0 (by show ¬ (10 : Int) = 1; decide)
    obtain rfl : c = noChg := hc0 (by show ¬ (10 : Int) = 2; decide)
    obtain rfl : st = false := by cases st with | false => rfl | true => exact absurd (hs rfl) (by show ¬ (10 : Int) = 6; decide)
    show (rNums [0] [0, 0, 0, 0, 0, 0, 0, 0]).then _ (wNum n0 :: []) = _
    have hN : rNums [0] [0, 0, 0, 0, 0, 0, 0, 0] (wNum n0 :: []) = some ([n0, 0, 0, 0, 0, 0, 0, 0], []) := by
      rw [rNums, then_some (r_num (z w0.1) _)]
      rfl
    rw [then_some hN]
    rw [if_neg (by decide), if_neg (by decide), if_neg (by decide)]
    rfl
  · obtain rfl : n1 = 0 := by rcases w1.2 with h | h; (· exact absurd h (by decide)); (· exact h)
    obtain rfl : n3 = 0 := by rcases w3.2 with h | h; (· exact absurd h (by decide)); (· exact h)
    obtain rfl : n4 = 0 := by rcases w4.2 with h | h; (· exact absurd h (by decide)); (· exact h)
    obtain rfl : n5 = 0 := by rcases w5.2 with h | h; (· exact absurd h (by decide)); (· exact h)
    obtain rfl : n6 = 0 := by rcases w6.2 with h | h; (· exact absurd h (by decide)); (· exact h)
    obtain rfl : n7 = 0 := by rcases w7.2 with h | h; (· exact absurd h (by decide)); (· exact h)
    obtain rfl : q = noReq := hq0 (by show ¬ (11 : Int) = 1; decide)
    obtain rfl : c = noChg := hc0 (by show ¬ (11 : Int) = 2; decide)
    obtain rfl : st = false := by cases st with | false => rfl | true => exact absurd (hs rfl) (by show ¬ (11 : Int) = 6; decide)
    show (rNums [0, 2] [0, 0, 0, 0, 0, 0, 0, 0]).then _ (wNum n0 :: wNum n2 :: []) = _
    have hN : rNums [0, 2] [0, 0, 0, 0, 0, 0, 0, 0] (wNum n0 :: wNum n2 :: []) = some ([n0, 0, n2, 0, 0, 0, 0, 0], []) := by
      rw [rNums, then_some (r_num (z w0.1) _)]
      rw [rNums, then_some (r_num (z w2.1) _)]
      rfl
    rw [then_some hN]
    rw [if_neg (by decide), if_neg (by decide), if_neg (by decide)]
    rfl
  · obtain rfl : n1 = 0 := by rcases w1.2 with h | h; (· exact absurd h (by decide)); (· exact h)
    obtain rfl : n3 = 0 := by rcases w3.2 with h | h; (· exact absurd h (by decide)); (· exact h)
    obtain rfl : n4 = 0 := by rcases w4.2 with h | h; (· exact absurd h (by decide)); (· exact h)
    obtain rfl : n5 = 0 := by rcases w5.2 with h | h; (· exact absurd h (by decide)); (· exact h)
    obtain rfl : n6 = 0 := by rcases w6.2 with h | h; (· exact absurd h (by decide)); (· exact h)
    obtain rfl : n7 = 0 := by rcases w7.2 with h | h; (· exact absurd h (by decide)); (· exact h)
    obtain rfl : q = noReq := hq0 (by show ¬ (12 : Int) = 1; decide)
    obtain rfl : c = noChg := hc0 (by show ¬ (12 : Int) = 2; decide)
    obtain rfl : st = false := by cases st with | false => rfl | true => exact absurd (hs rfl) (by show ¬ (12 : Int) = 6; decide)
    show (rNums [0, 2] [0, 0, 0, 0, 0, 0, 0, 0]).then _ (wNum n0 :: wNum n2 :: []) = _
    have hN : rNums [0, 2] [0, 0, 0, 0, 0, 0, 0, 0] (wNum n0 :: wNum n2 :: []) = some ([n0, 0, n2, 0, 0, 0, 0, 0], []) := by
      rw [rNums, then_some (r_num (z w0.1) _)]
      rw [rNums, then_some (r_num (z w2.1) _)]
      rfl
    rw [then_some hN]
    rw [if_neg (by decide), if_neg (by decide), if_neg (by decide)]
    rfl
  · obtain rfl : n3 = 0 := by rcases w3.2 with h | h; (· exact absurd h (by decide)); (· exact h)
    obtain rfl : n4 = 0 := by rcases w4.2 with h | h; (· exact absurd h (by decide)); (· exact h)
    obtain rfl : n5 = 0 := by rcases w5.2 with h | h; (· exact absurd h (by decide)); (· exact h)
    obtain rfl : n6 = 0 := by rcases w6.2 with h | h; (· exact absurd h (by decide)); (· exact h)
    obtain rfl : n7 = 0 := by rcases w7.2 with h | h; (· exact absurd h (by decide)); (· exact h)
    obtain rfl : q = noReq := hq0 (by show ¬ (13 : Int) = 1; decide)
    obtain rfl : c = noChg := hc0 (by show ¬ (13 : Int) = 2; decide)
    obtain rfl : st = false := by cases st with | false => rfl | true => exact absurd (hs rfl) (by show ¬ (13 : Int) = 6; decide)
    show (rNums [0, 2, 1] [0, 0, 0, 0, 0, 0, 0, 0]).then _ (wNum n0 :: wNum n2 :: wNum n1 :: []) = _
    have hN : rNums [0, 2, 1] [0, 0, 0, 0, 0, 0, 0, 0] (wNum n0 :: wNum n2 :: wNum n1 :: []) = some ([n0, n1, n2, 0, 0, 0, 0, 0], []) := by
      rw [rNums, then_some (r_num (z w0.1) _)]
      rw [rNums, then_some (r_num (z w2.1) _)]
      rw [rNums, then_some (r_num (z w1.1) _)]
      rfl
    rw [then_some hN]
    rw [if_neg (by decide), if_neg (by decide), if_neg (by decide)]
    rfl
end Go.Proofs.YtkogcobcjoojnaaGreatDoor.Fl

namespace Go.Proofs.YtkogcobcjoojnaaGreatDoor.Fl
open Go.RowKit Go.Maps
set_option linter.unusedVariables false
set_option linter.unusedSimpArgs false
/-- Bytes that are seen. -/
def okW (w : ByteArray) : Prop := ∀ b ∈ w.data.toList, 33 ≤ b.toNat ∧ b.toNat ≤ 126
theorem ok_txt {l : List Int} (h : ∀ x ∈ l, 33 ≤ x ∧ x ≤ 126) : okW (txt l) := by
  intro b hb
  have hb : b ∈ l.map fun n => UInt8.ofNat n.toNat := hb
  obtain ⟨n, hn, rfl⟩ := List.mem_map.1 hb
  have := h n hn
  rw [UInt8.toNat_ofNat']
  omega
theorem ok_num (n : Int) : okW (wNum n) := by
  intro b hb
  have hb : b ∈ Lib.itoa n := hb
  unfold Lib.itoa at hb
  split at hb
  · rcases List.mem_cons.1 hb with rfl | hb
    · decide
    · have := dec_bd _ b hb
      omega
  · have := dec_bd _ b hb
    omega
theorem ok_text (s : ByteArray) : okW (wText s) := ok_txt (quo3_in _ (byt_bd s))
theorem ok_byt {s : ByteArray} (h : ∀ x ∈ byt s, 33 ≤ x ∧ x ≤ 126) : okW s := fun b hb => by
  have := h (b.toNat : Int) (List.mem_map.2 ⟨b, hb, rfl⟩)
  omega
theorem ok_name {s : ByteArray} (h : nameOk s = true) : okW s := by
  unfold nameOk at h
  simp only [Bool.and_eq_true, List.all_eq_true] at h
  refine ok_byt (fun x hx => ?_)
  have := h.1.1 x hx
  unfold nameC at this
  simp only [Bool.or_eq_true, Bool.and_eq_true, decide_eq_true_iff] at this
  omega
theorem qq_in : ∀ (l : List Int), Byts l → ∀ x ∈ qq l, 32 ≤ x ∧ x ≤ 126
  | [], _, x, h => by cases h
  | y :: t, hb, x, h => by
    have hy := hb y (by simp)
    rw [qq] at h
    rcases List.mem_append.1 h with h1 | h1
    · unfold qc at h1
      split at h1
      · simp only [List.mem_cons, List.not_mem_nil, or_false] at h1
        rcases h1 with rfl | rfl | rfl
        · omega
        · rcases hx_bd (y / 16) (by omega) (by omega) with h | h <;> omega
        · rcases hx_bd (y % 16) (by omega) (by omega) with h | h <;> omega
      · have : x = y := by simpa using h1
        omega
    · exact qq_in t (fun z hz => hb z (by simp [hz])) x h1
theorem showS_in (n : Int) : ∀ b ∈ (showS n).data.toList, 32 ≤ b.toNat ∧ b.toNat ≤ 126 := by
  unfold showS
  repeat' split
  all_goals first | decide | skip
  intro b hb
  have hb2 : b ∈ (120 :: hexI 16 (U n)).map fun n => UInt8.ofNat n.toNat := hb
  obtain ⟨z, hz, rfl⟩ := List.mem_map.1 hb2
  rw [UInt8.toNat_ofNat']
  rcases List.mem_cons.1 hz with rfl | hz
  · decide
  · have := hexI_in 16 (U n) z hz
    omega
theorem show_in {k n : Int} {s : ByteArray} (h : rightV k n s = true) : ∀ b ∈ (showV k n s).data.toList, 32 ≤ b.toNat ∧ b.toNat ≤ 126 := by
  have hq : ∀ b ∈ (txt (quo (byt s))).data.toList, 32 ≤ b.toNat ∧ b.toNat ≤ 126 := by
    intro b hb
    have hb : b ∈ (quo (byt s)).map fun n => UInt8.ofNat n.toNat := hb
    obtain ⟨n, hn, rfl⟩ := List.mem_map.1 hb
    have : 32 ≤ n ∧ n ≤ 126 := by
      unfold quo at hn
      rcases List.mem_append.1 hn with h | h
      · rcases List.mem_append.1 h with h | h
        · have : n = 34 := by simpa using h
          omega
        · exact qq_in _ (byt_bd s) n h
      · have : n = 34 := by simpa using h
        omega
    rw [UInt8.toNat_ofNat']
    omega
  rcases show_form h with ⟨_, _, e⟩ | ⟨_, _, _, e⟩ | ⟨_, _, _, e⟩ | ⟨_, _, _, e⟩ | ⟨_, _, e⟩ | ⟨_, _, e⟩ <;> rw [e]
  · intro b hb
    have := ok_num n b hb
    omega
  · decide
  · decide
  · intro b hb
    rw [ByteArray.data_append, Array.toList_append] at hb
    rcases List.mem_append.1 hb with hb | hb
    · have : b = 102 := by simpa using hb
      subst this
      decide
    · exact showS_in n b hb
  · intro b hb
    rw [ByteArray.data_append, Array.toList_append] at hb
    rcases List.mem_append.1 hb with hb | hb
    · have : b = 98 := by simpa using hb
      subst this
      decide
    · exact hq b hb
  · intro b hb
    rw [ByteArray.data_append, Array.toList_append] at hb
    rcases List.mem_append.1 hb with hb | hb
    · have : b = 116 := by simpa using hb
      subst this
      decide
    · exact hq b hb
theorem spc_in : ∀ (l : List UInt8), (∀ b ∈ l, 32 ≤ b.toNat ∧ b.toNat ≤ 126) → ∀ b ∈ spc l, 33 ≤ b.toNat ∧ b.toNat ≤ 126
  | [], _, b, h => by cases h
  | c :: l, h, b, hb => by
    have hc := h c (by simp)
    rw [spc] at hb
    by_cases h32 : c = 32
    · rw [if_pos h32] at hb
      rcases List.mem_cons.1 hb with rfl | hb
      · decide
      · rcases List.mem_cons.1 hb with rfl | hb
        · decide
        · rcases List.mem_cons.1 hb with rfl | hb
          · decide
          · exact spc_in l (fun x hx => h x (by simp [hx])) b hb
    · rw [if_neg h32] at hb
      rcases List.mem_cons.1 hb with rfl | hb
      · have : ¬ b.toNat = 32 := fun e => h32 (UInt8.toNat_inj.1 e)
        omega
      · exact spc_in l (fun x hx => h x (by simp [hx])) b hb
theorem ok_val {k n : Int} {s : ByteArray} (h : noVal k n s = true ∨ rightV k n s = true) : okW (wVal k n s) := by
  unfold wVal
  rcases h with h | h
  · rw [if_pos (noVal_eq h).1]
    unfold okW
    decide
  · have hk : ¬ k = 0 := by
      rcases right_kinds h with ⟨e, c⟩ | ⟨e, c, c2⟩ | ⟨e, c, c2⟩ | ⟨e, e2, c⟩ | ⟨e, e2, c, c2⟩ <;> omega
    rw [if_neg hk]
    exact spc_in _ (show_in h)
theorem ok_mut {m : MutE} (h : mutOk m = true) : ∀ w ∈ wMut m, okW w := by
  intro w hw
  unfold wMut at hw
  rcases mut_kinds h with ⟨hk, h2, _, h4⟩ | ⟨hk, h2, _, h4⟩ | ⟨hk, h2, h3, h4⟩ | ⟨hk, h2, h3, h4⟩
  · rw [if_pos hk, hk] at hw
    simp only [List.mem_cons, List.not_mem_nil, or_false] at hw
    rcases hw with rfl | rfl | rfl | rfl
    · unfold okW; decide
    · exact ok_name h2
    · exact ok_text _
    · exact ok_val (Or.inr h4)
  · rw [if_neg (by omega), if_pos hk, hk] at hw
    simp only [List.mem_cons, List.not_mem_nil, or_false] at hw
    rcases hw with rfl | rfl | rfl
    · unfold okW; decide
    · exact ok_name h2
    · exact ok_text _
  · rw [if_neg (by omega), if_neg (by omega), if_pos hk, hk] at hw
    simp only [List.mem_cons, List.not_mem_nil, or_false] at hw
    rcases hw with rfl | rfl
    · unfold okW; decide
    · exact ok_name h2
  · rw [if_neg (by omega), if_neg (by omega), if_neg (by omega), hk] at hw
    simp only [List.mem_cons, List.not_mem_nil, or_false] at hw
    subst hw
    unfold okW; decide
end Go.Proofs.YtkogcobcjoojnaaGreatDoor.Fl

namespace Go.Proofs.YtkogcobcjoojnaaGreatDoor.Fl
open Go.RowKit Go.Maps
set_option linter.unusedVariables false
set_option linter.unusedSimpArgs false
theorem ok_fil {f : FilE} (h : filOk f = true) : ∀ w ∈ wFil f, okW w := by
  intro w hw
  unfold wFil at hw
  rcases List.mem_cons.1 hw with rfl | hw
  · exact ok_num _
  · rcases List.mem_append.1 hw with hw | hw
    · exact ok_name ((filOk_len h).2 w hw)
    · simp only [List.mem_cons, List.not_mem_nil, or_false] at hw
      rcases hw with rfl | rfl | rfl | rfl | rfl | rfl
      · exact ok_text _
      · exact ok_text _
      · exact ok_num _
      · exact ok_num _
      · exact ok_num _
      · exact ok_num _
theorem ok_muts {ms : List MutE} (h : ∀ m ∈ ms, mutOk m = true) : ∀ w ∈ ms.flatMap wMut, okW w := by
  intro w hw
  obtain ⟨m, hm, hw⟩ := List.mem_flatMap.1 hw
  exact ok_mut (h m hm) w hw
theorem ok_req {q : ReqE} (h : reqOk q = true) : ∀ w ∈ wReq q, okW w := by
  intro w hw
  unfold wReq at hw
  unfold reqOk at h
  by_cases h3 : q.kind = 3
  · rw [if_pos h3] at h hw
    simp only [Bool.and_eq_true, List.isEmpty_iff] at h
    obtain ⟨⟨⟨⟨⟨_, h4⟩, _⟩, _⟩, _⟩, h8⟩ := h
    rw [h3, h4] at hw
    rcases List.mem_cons.1 hw with rfl | hw
    · unfold okW; decide
    · rcases List.mem_cons.1 hw with rfl | hw
      · exact ok_text _
      · rw [List.flatMap_nil, List.append_nil] at hw
        rcases List.mem_cons.1 hw with rfl | hw
        · exact ok_text _
        · exact ok_fil h8 w hw
  · rw [if_neg h3] at h hw
    by_cases h1 : q.kind = 1
    · rw [if_pos h1] at h
      simp only [Bool.and_eq_true] at h
      have hm := (write_eq h.1.1.1).2.2.1
      rw [if_neg (by omega), h1, List.nil_append] at hw
      rcases List.mem_cons.1 hw with rfl | hw
      · unfold okW; decide
      · rcases List.mem_cons.1 hw with rfl | hw
        · exact ok_text _
        · exact ok_muts hm w hw
    · rw [if_neg h1] at h
      by_cases h2 : q.kind = 2
      · rw [if_pos h2] at h
        simp only [Bool.and_eq_true, Bool.or_eq_true] at h
        have hm := (write_eq h.1.1.1).2.2.1
        rw [if_pos h2, h2] at hw
        rcases List.mem_cons.1 hw with rfl | hw
        · unfold okW; decide
        · rcases List.mem_cons.1 hw with rfl | hw
          · exact ok_text _
          · rcases List.mem_append.1 hw with hw | hw
            · simp only [List.mem_cons, List.not_mem_nil, or_false] at hw
              rcases hw with rfl | rfl | rfl
              · exact ok_name h.1.1.2
              · exact ok_text _
              · exact ok_val h.2
            · exact ok_muts hm w hw
      · rw [if_neg h2] at h
        cases h
theorem chg_kinds {c : ChgE} (h : chgOk c = true) : 1 ≤ c.kind ∧ c.kind ≤ 5 ∧ nameOk c.fam = true := by
  unfold chgOk at h
  rw [Bool.and_eq_true] at h
  refine ⟨?_, ?_, h.1⟩ <;>
  · have h := h.2
    repeat' split at h
    all_goals first | omega | cases h
theorem nth_chg {k : Int} (h1 : 1 ≤ k) (h2 : k ≤ 5) : okW (nth chgN k) := by
  obtain rfl | rfl | rfl | rfl | rfl : k = 1 ∨ k = 2 ∨ k = 3 ∨ k = 4 ∨ k = 5 := by omega
  all_goals (unfold okW; decide)
theorem nth_ev {k : Int} (h1 : 1 ≤ k) (h2 : k ≤ 13) : okW (nth evN k) ∧ ¬ nth evN k = noB := by
  obtain rfl | rfl | rfl | rfl | rfl | rfl | rfl | rfl | rfl | rfl | rfl | rfl | rfl : k = 1 ∨ k = 2 ∨ k = 3 ∨ k = 4 ∨ k = 5 ∨ k = 6 ∨ k = 7 ∨ k = 8 ∨ k = 9 ∨ k = 10 ∨ k = 11 ∨ k = 12 ∨ k = 13 := by omega
  all_goals (unfold okW; decide)
theorem ok_chg {c : ChgE} (h : chgOk c = true) : ∀ w ∈ wChg c, okW w := by
  intro w hw
  obtain ⟨k1, k2, hn⟩ := chg_kinds h
  unfold wChg at hw
  rcases List.mem_cons.1 hw with rfl | hw
  · exact nth_chg k1 k2
  · rcases List.mem_cons.1 hw with rfl | hw
    · exact ok_name hn
    · rcases List.mem_append.1 hw with hw | hw
      · split at hw
        · have : w = wText c.qual := by simpa using hw
          rw [this]
          exact ok_text _
        · cases hw
      · obtain ⟨n, _, rfl⟩ := List.mem_map.1 hw
        exact ok_num n
theorem ok_ev {e : EvE} (h : told e = true) : ∀ w ∈ wEv e, okW w := by
  intro w hw
  have hT := told_eq h
  unfold wEv at hw
  rcases List.mem_cons.1 hw with rfl | hw
  · exact (nth_ev hT.k.1 hT.k.2).1
  · rcases List.mem_append.1 hw with hw | hw
    · obtain ⟨i, _, rfl⟩ := List.mem_map.1 hw
      exact ok_num _
    · by_cases h1 : e.kind = 1
      · rw [if_pos h1] at hw
        exact ok_req (hT.q h1) w hw
      · rw [if_neg h1] at hw
        by_cases h2 : e.kind = 2
        · rw [if_pos h2] at hw
          exact ok_chg (hT.c h2) w hw
        · rw [if_neg h2] at hw
          split at hw
          · have : w = wStays := by simpa using hw
            rw [this]
            unfold okW; decide
          · cases hw
/-- The event of a line. -/
noncomputable def readE (s : ByteArray) : Option EvE := match rEv ((Sc.spl 32 s.data.toList).map fun l => ⟨l.toArray⟩) with
  | some (x, _) => if lineE x = s then some x else none
  | none => none
theorem line_told {e : EvE} (h : told e = true) : lineE e = ⟨(Lib.join ((wEv e).map (·.data.toList)) [32]).toArray⟩ := by unfold lineE; rw [if_pos h]
theorem split_line {e : EvE} (h : told e = true) : (Sc.spl 32 (lineE e).data.toList).map (fun l => (⟨l.toArray⟩ : ByteArray)) = wEv e := by
  rw [line_told h]
  show (Sc.spl 32 (Lib.join ((wEv e).map (·.data.toList)) [32])).map _ = _
  rw [Sc.spl_join _ (by unfold wEv; simp) (fun w hw b hb hb32 => by
    obtain ⟨x, hx, rfl⟩ := List.mem_map.1 hw
    have := ok_ev h x hx b hb
    rw [hb32] at this
    have e32 : (32 : UInt8).toNat = 32 := rfl
    omega), List.map_map]
  have : ((fun l : List UInt8 => (⟨l.toArray⟩ : ByteArray)) ∘ fun x : ByteArray => x.data.toList) = id := by
    funext x
    rfl
  rw [this, List.map_id]
theorem read_line {e : EvE} (hw : ReqW e.req) (h : told e = true) : readE (lineE e) = some e := by
  unfold readE
  rw [split_line h]
  obtain ⟨r, hr⟩ := r_ev e hw h
  rw [hr]
  show (if lineE e = lineE e then some e else none) = _
  rw [if_pos rfl]
theorem line_ne {e : EvE} (h : told e = true) : ¬ lineE e = noB := by
  intro he
  have h1 := split_line h
  rw [he] at h1
  have h2 : [noB] = wEv e := h1
  have h3 := (nth_ev (told_eq h).k.1 (told_eq h).k.2).2
  unfold wEv at h2
  exact h3 (List.cons_eq_cons.1 h2).1.symm
/-- A line's bytes are seen ones, or spaces. -/
theorem line_in {e : EvE} (h : told e = true) : ∀ b ∈ (lineE e).data.toList, 32 ≤ b.toNat ∧ b.toNat ≤ 126 := by
  rw [line_told h]
  have hw := ok_ev h
  show ∀ b ∈ Lib.join ((wEv e).map (·.data.toList)) [32], 32 ≤ b.toNat ∧ b.toNat ≤ 126
  have : ∀ ws : List ByteArray, (∀ w ∈ ws, okW w) → ∀ b ∈ Lib.join (ws.map (·.data.toList)) [32], 32 ≤ b.toNat ∧ b.toNat ≤ 126 := by
    intro ws
    cases ws with
    | nil => intro _ b hb; cases hb
    | cons w ws =>
      intro hw b hb
      rw [List.map_cons, Lib.join_cons] at hb
      rcases List.mem_append.1 hb with hb | hb
      · have := hw w (by simp) b hb
        omega
      · unfold Lib.joinTail at hb
        obtain ⟨l, hl, hb⟩ := List.mem_flatten.1 hb
        obtain ⟨l2, hl2, rfl⟩ := List.mem_map.1 hl
        obtain ⟨w2, hw2, rfl⟩ := List.mem_map.1 hl2
        rcases List.mem_append.1 hb with hb | hb
        · have : b = 32 := by simpa using hb
          subst this
          decide
        · have := hw w2 (by simp [hw2]) b hb
          omega
  exact this _ hw
end Go.Proofs.YtkogcobcjoojnaaGreatDoor.Fl

namespace Go.Proofs.YtkogcobcjoojnaaGreatDoor.Fl
open Go.RowKit Go.Maps
set_option linter.unusedVariables false
set_option linter.unusedSimpArgs false
/-- Lines, each with its end. -/
def cat (ls : List (List UInt8)) : List UInt8 := (ls.map (· ++ [10])).flatten
theorem cat_append (a b : List (List UInt8)) : cat (a ++ b) = cat a ++ cat b := by simp [cat]
theorem cat_join : ∀ (ls : List (List UInt8)), ¬ ls = [] → cat ls = Lib.join ls [10] ++ [10]
  | [], h => absurd rfl h
  | [x], _ => by simp [cat, Lib.join_one]
  | x :: y :: r, _ => by
    have ih := cat_join (y :: r) (by simp)
    rw [Sc.join_two]
    have e : cat (x :: y :: r) = x ++ [10] ++ cat (y :: r) := by simp [cat]
    rw [e, ih]
    simp
/-- A text without the end of its last line. -/
def chop (t : List UInt8) : List UInt8 := Lib.trimSuffix t [10]
/-- A text's lines. -/
def linesOf (t : List UInt8) : List (List UInt8) := Sc.spl 10 (chop t)
theorem chop_snoc (l : List UInt8) : chop (l ++ [10]) = l := by
  unfold chop Lib.trimSuffix
  have h : Lib.hasSuffix (l ++ [10]) [10] = true := by
    unfold Lib.hasSuffix
    simp
  rw [if_pos h]
  simp
theorem lines_cat (ls : List (List UInt8)) (h : ¬ ls = []) (hn : ∀ l ∈ ls, ∀ b ∈ l, ¬ b = 10) : linesOf (cat ls) = ls := by
  unfold linesOf
  rw [cat_join ls h, chop_snoc, Sc.spl_join ls h hn]
theorem lines_nil : linesOf (cat []) = [[]] := by decide
/-- The events of lines: of the first that tells none, its number. -/
noncomputable def prs : Nat → List EvE → List ByteArray → Except Nat (List EvE)
  | _, acc, [] => .ok acc
  | i, acc, s :: r => if s = noB ∨ Lib.hasPrefix s.data.toList [35] = true then prs (i + 1) acc r else match readE s with
    | some e => prs (i + 1) (acc ++ [e]) r
    | none => .error (i + 1)
noncomputable def parseE (t : ByteArray) : Except Nat (List EvE) := prs 0 [] ((linesOf t.data.toList).map fun l => ⟨l.toArray⟩)
theorem prs_skip {s : ByteArray} (h : s = noB ∨ Lib.hasPrefix s.data.toList [35] = true) (i : Nat) (acc : List EvE) (r : List ByteArray) : prs i acc (s :: r) = prs (i + 1) acc r := by rw [prs, if_pos h]
theorem ev_first {k : Int} (h1 : 1 ≤ k) (h2 : k ≤ 13) : ∃ c l, (nth evN k).data.toList = c :: l ∧ ¬ c = 35 ∧ ¬ c = 63 := by
  obtain rfl | rfl | rfl | rfl | rfl | rfl | rfl | rfl | rfl | rfl | rfl | rfl | rfl : k = 1 ∨ k = 2 ∨ k = 3 ∨ k = 4 ∨ k = 5 ∨ k = 6 ∨ k = 7 ∨ k = 8 ∨ k = 9 ∨ k = 10 ∨ k = 11 ∨ k = 12 ∨ k = 13 := by omega
  all_goals exact ⟨_, _, rfl, by decide, by decide⟩
theorem line_first {e : EvE} (h : told e = true) : ∃ c l, (lineE e).data.toList = c :: l ∧ ¬ c = 35 ∧ ¬ c = 63 := by
  obtain ⟨c, l, e1, e2, e3⟩ := ev_first (told_eq h).k.1 (told_eq h).k.2
  rw [line_told h]
  show ∃ c l, Lib.join ((wEv e).map (·.data.toList)) [32] = c :: l ∧ _
  unfold wEv
  rw [List.map_cons, Lib.join_cons, e1]
  exact ⟨c, _, rfl, e2, e3⟩
theorem prs_line {e : EvE} (hw : ReqW e.req) (h : told e = true) (i : Nat) (acc : List EvE) (r : List ByteArray) : prs i acc (lineE e :: r) = prs (i + 1) (acc ++ [e]) r := by
  rw [prs, if_neg, read_line hw h]
  rintro (h1 | h1)
  · exact line_ne h h1
  · obtain ⟨c, l, e1, e2, _⟩ := line_first h
    rw [e1] at h1
    unfold Lib.hasPrefix at h1
    simp at h1
    exact e2 h1.symm
theorem prs_lines : ∀ (l : List EvE), (∀ e ∈ l, ReqW e.req ∧ told e = true) → ∀ (i : Nat) (acc : List EvE) (r : List ByteArray), prs i acc (l.map lineE ++ r) = prs (i + l.length) (acc ++ l) r
  | [], _, i, acc, r => by simp
  | e :: l, h, i, acc, r => by
    rw [List.map_cons, List.cons_append, prs_line (h e (by simp)).1 (h e (by simp)).2, prs_lines l (fun x hx => h x (by simp [hx]))]
    congr 1
    · simp; omega
    · simp
/-- A line that begins with a '?' tells none. -/
theorem read_ask (l : List UInt8) : readE ⟨(63 :: l).toArray⟩ = none := by
  unfold readE
  obtain ⟨w, ws, h1, h2⟩ := Sc.spl_cons_ne (c := 32) (b := 63) (by decide) l
  show (match rEv ((Sc.spl 32 (63 :: l)).map fun l => ⟨l.toArray⟩) with
    | some (x, _) => if lineE x = ⟨(63 :: l).toArray⟩ then some x else none
    | none => none) = none
  rw [h2, List.map_cons]
  have hn : rOne evN (⟨(63 :: w).toArray⟩ :: ws.map fun l => ⟨l.toArray⟩) = none := by
    show (match evN.findIdx? (fun x => decide (x = (⟨(63 :: w).toArray⟩ : ByteArray))) with
      | some i => some ((i : Int) + 1, _)
      | none => none) = none
    have : evN.findIdx? (fun x => decide (x = (⟨(63 :: w).toArray⟩ : ByteArray))) = none := by
      rw [List.findIdx?_eq_none_iff]
      intro x hx
      apply decide_eq_false
      intro e
      have h3 : x.data.toList.head? = some 63 := by rw [e]; rfl
      have : ∀ x ∈ evN, ¬ x.data.toList.head? = some 63 := by decide
      exact this x hx h3
    rw [this]
  have : rEv (⟨(63 :: w).toArray⟩ :: ws.map fun l => ⟨l.toArray⟩) = none := by
    show (rOne evN).then _ _ = none
    unfold Pr.then
    rw [hn]
  rw [this]
/-- Events as text. -/
def showE (l : List EvE) : ByteArray := if l.all told = true then ⟨(cat (l.map fun e => (lineE e).data.toList)).toArray⟩ else noB
theorem line_no10 {e : EvE} (h : told e = true) : ∀ b ∈ (lineE e).data.toList, ¬ b = 10 := fun b hb e10 => by
  have := line_in h b hb
  rw [e10] at this
  have e : (10 : UInt8).toNat = 10 := rfl
  omega
theorem back_map (l : List EvE) : (l.map fun e => (lineE e).data.toList).map (fun x => (⟨x.toArray⟩ : ByteArray)) = l.map lineE := by
  rw [List.map_map]
  rfl
theorem parse_show {l : List EvE} (h : ∀ e ∈ l, ReqW e.req ∧ told e = true) : parseE ⟨(cat (l.map fun e => (lineE e).data.toList)).toArray⟩ = .ok l := by
  unfold parseE
  show prs 0 [] ((linesOf (cat (l.map fun e => (lineE e).data.toList))).map fun l => ⟨l.toArray⟩) = _
  by_cases hl : l = []
  · subst hl
    show prs 0 [] ((linesOf (cat [])).map fun l => ⟨l.toArray⟩) = _
    rw [lines_nil]
    show prs 0 [] [noB] = _
    rw [prs_skip (Or.inl rfl)]
    rfl
  · rw [lines_cat _ (by simpa using hl) (fun x hx b hb => by
      obtain ⟨e, he, rfl⟩ := List.mem_map.1 hx
      exact line_no10 (h e he).2 b hb), back_map]
    have := prs_lines l h 0 [] []
    rw [List.append_nil] at this
    rw [this]
    show Except.ok ([] ++ l) = _
    rw [List.nil_append]
/-- .. behind an empty line and a remark. -/
theorem parse_remark {l : List EvE} (h : ∀ e ∈ l, ReqW e.req ∧ told e = true) (rm : List UInt8) (hr : ∀ b ∈ rm, ¬ b = 10) : parseE ⟨([10, 35] ++ rm ++ [10] ++ cat (l.map fun e => (lineE e).data.toList)).toArray⟩ = .ok l := by
  have e : [10, 35] ++ rm ++ [10] ++ cat (l.map fun e => (lineE e).data.toList) = cat ([] :: (35 :: rm) :: l.map fun e => (lineE e).data.toList) := by simp [cat]
  rw [e]
  unfold parseE
  show prs 0 [] ((linesOf (cat ([] :: (35 :: rm) :: l.map fun e => (lineE e).data.toList))).map fun l => ⟨l.toArray⟩) = _
  rw [lines_cat _ (by simp) (fun x hx b hb => by
    rcases List.mem_cons.1 hx with rfl | hx
    · cases hb
    · rcases List.mem_cons.1 hx with rfl | hx
      · rcases List.mem_cons.1 hb with rfl | hb
        · decide
        · exact hr b hb
      · obtain ⟨e, he, rfl⟩ := List.mem_map.1 hx
        exact line_no10 (h e he).2 b hb), List.map_cons, List.map_cons, back_map]
  show prs 0 [] (noB :: (⟨(35 :: rm).toArray⟩ : ByteArray) :: l.map lineE) = _
  rw [prs_skip (Or.inl rfl), prs_skip (Or.inr (by show Lib.hasPrefix (35 :: rm) [35] = true; simp [Lib.hasPrefix]))]
  have := prs_lines l h (0 + 1 + 1) [] []
  rw [List.append_nil] at this
  rw [this]
  show Except.ok ([] ++ l) = _
  rw [List.nil_append]
/-- .. with a line that tells none. -/
theorem parse_ask {a b : List EvE} (ha : ∀ e ∈ a, ReqW e.req ∧ told e = true) (hb : ∀ e ∈ b, told e = true) (rm : List UInt8) (hr : ∀ b ∈ rm, ¬ b = 10) : parseE ⟨(cat (a.map fun e => (lineE e).data.toList) ++ [63] ++ rm ++ [10] ++ cat (b.map fun e => (lineE e).data.toList)).toArray⟩ = .error (a.length + 1) := by
  have e : cat (a.map fun e => (lineE e).data.toList) ++ [63] ++ rm ++ [10] ++ cat (b.map fun e => (lineE e).data.toList) = cat ((a.map fun e => (lineE e).data.toList) ++ (63 :: rm) :: b.map fun e => (lineE e).data.toList) := by simp [cat]
  rw [e]
  unfold parseE
  show prs 0 [] ((linesOf (cat ((a.map fun e => (lineE e).data.toList) ++ (63 :: rm) :: b.map fun e => (lineE e).data.toList))).map fun l => ⟨l.toArray⟩) = _
  rw [lines_cat _ (by simp) (fun x hx c hc => by
    rcases List.mem_append.1 hx with hx | hx
    · obtain ⟨e, he, rfl⟩ := List.mem_map.1 hx
      exact line_no10 (ha e he).2 c hc
    · rcases List.mem_cons.1 hx with rfl | hx
      · rcases List.mem_cons.1 hc with rfl | hc
        · decide
        · exact hr c hc
      · obtain ⟨e, he, rfl⟩ := List.mem_map.1 hx
        exact line_no10 (hb e he) c hc), List.map_append, List.map_cons, back_map]
  rw [prs_lines a ha, prs, if_neg, read_ask]
  · simp
  · rintro (h1 | h1)
    · have := congrArg (fun x : ByteArray => x.data.toList) h1
      simp [noB] at this
    · have h1 : Lib.hasPrefix (63 :: rm) [35] = true := h1
      simp [Lib.hasPrefix] at h1
end Go.Proofs.YtkogcobcjoojnaaGreatDoor.Fl

namespace Go.Proofs.YtkogcobcjoojnaaGreatDoor.Fl
open Go.RowKit Go.Maps
set_option linter.unusedVariables false
set_option linter.unusedSimpArgs false
theorem infoS : (Tryz.prog.info? 9).map (fun i => (i.zero, i.size, i.bytes)) = some (some (.string ByteArray.empty), 1, 16) := by kernel_rfl
def strs (ws : List ByteArray) : List Value := ws.map Value.string
theorem strs_append (a b : List ByteArray) : strs (a ++ b) = strs a ++ strs b := List.map_append
/-- A writer in block p, of the blocks from B on: the words that it holds. -/
def IsW (B p : Nat) (ws : List ByteArray) (w : World) : Prop :=
  B ≤ p ∧ ∃ v, w.heap[p]? = some (.cells #[v] 106 (0, 0)) ∧ w.ownsRow B 9 1 v ws.length (strs ws) ∧ v.ownBlock ≠ some p
theorem IsW.lt {B p : Nat} {ws : List ByteArray} {w : World} (h : IsW B p ws w) : p < w.heap.size := by
  obtain ⟨_, v, hb, _⟩ := h
  rcases Nat.lt_or_ge p w.heap.size with h' | h'
  · exact h'
  · simp [Array.getElem?_eq_none h'] at hb
theorem IsW.put {B p : Nat} {v v' : Value} {ws' : List ByteArray} {w : World} (hB : B ≤ p) (hb : w.heap[p]? = some (.cells #[v] 106 (0, 0))) (hown : w.ownsRow B 9 1 v' ws'.length (strs ws')) :
    IsW B p ws' (w.setCell ⟨p, 0, none⟩ v') := by
  have hne : v'.ownBlock ≠ some p := by
    rcases hown.2 with ⟨rfl, _⟩ | ⟨g, cap, cur, rfl, _, hg, _⟩
    · intro h; cases h
    · intro h
      have h : g = p := by simpa [Value.ownBlock] using h
      subst h
      rw [hb] at hg
      simp at hg
  refine ⟨hB, v', ?_, ?_, hne⟩
  · simp [World.setCell, Array.getElem?_modify, hb]
  · exact hown.kept (row := some p) ⟨rfl, rfl, rfl, by simp [World.setCell], fun k _ hk => Below.heap_setCell _ _ _ _ (fun e => hk (by simp [e]))⟩ (Or.inr hne)
/-- Block k is no row of the writer in block p. -/
def NotRow (p k : Nat) (w : World) : Prop := ∀ v, w.heap[p]? = some (.cells #[v] 106 (0, 0)) → v.ownBlock ≠ some k
/-- What the writer in block p leaves as it was: every block but its own two. -/
structure Fr (p : Nat) (w w' : World) : Prop where
  size : w.heap.size ≤ w'.heap.size
  keeps : ∀ k, k < w.heap.size → k ≠ p → NotRow p k w → w'.heap[k]? = w.heap[k]? ∧ NotRow p k w'
theorem Fr.trans {p : Nat} {a b c : World} (h : Fr p a b) (h2 : Fr p b c) : Fr p a c :=
  ⟨Nat.le_trans h.size h2.size, fun k hk hne hr => by
    obtain ⟨e1, r1⟩ := h.keeps k hk hne hr
    obtain ⟨e2, r2⟩ := h2.keeps k (Nat.lt_of_lt_of_le hk h.size) hne r1
    exact ⟨e2.trans e1, r2⟩⟩
theorem Fr.below {p : Nat} {w w' : World} (hp : p < w.heap.size) (hb : Below w.heap.size w w') : Fr p w w' :=
  ⟨hb.size, fun k hk _ hr => ⟨hb.block k hk, fun v hv => hr v (by rw [← hb.block p hp]; exact hv)⟩⟩
set_option maxRecDepth 100000 in
set_option maxHeartbeats 2000000 in
theorem c_word (B p : Nat) (ws : List ByteArray) (s : ByteArray) (w : World) (h : IsW B p ws w) (hlen : ws.length < 1099511627776) :
    Calls Tryz.prog 61 #[.pointer (some ⟨p, 0, none⟩), .string s] w fun e w' => e = .returned (.tuple #[]) ∧ IsW B p (ws ++ [s]) w' ∧ Below B w w' ∧ Fr p w w' := by
  obtain ⟨i0, hi, hz0, hz1, hz2⟩ := info_parts infoS
  have hlt := h.lt
  obtain ⟨hB, v, hbk, hown, hne⟩ := h
  have c0 : w.cell? ⟨p, 0, none⟩ = some v := by simp [World.cell?, hbk]
  go_enter Tryz.func61, Tryz.ntmps61
  have hw : w.heap.size ≤ w.heap.size := Nat.le_refl _
  go_wp2_with (at_builtin; refine wpList_append_own_at _ rfl _ _ 31 rfl B 9 i0 (.string ByteArray.empty) 1 16 Tryz.underlying31 hi hz0 hz1 hz2 rfl (by decide) _ _ _ rfl (hown.alloc _) ⟨w.heap.size, 0, none⟩ 1 1 [.string s] rfl rfl ?c1 ?c2 ?c3 ?c4 ?c5 ?_)
  case c1 =>
    intro j u hj
    match j, hj with
    | 0, hj => simp at hj; subst hj; simp [Addr.add]
  case c2 => intro u hu; simp at hu; subst hu; rfl
  case c3 => unfold maxLen; omega
  case c4 => omega
  case c5 => simp; omega
  intro v' w2 hown' hgrow _ hat
  have hb2 : w2.heap[p]? = some (.cells #[v] 106 (0, 0)) := by
    rw [hgrow.block p (by simp; omega) (fun e => hne e.symm), Lib.alloc_old w _ p hlt]
    exact hbk
  have d0 : w2.cell? ⟨p, 0, none⟩ = some v := by simp [World.cell?, hb2]
  have f1 : w2.frozen? ⟨p, 0, none⟩ = false := by simp [World.frozen?, hb2]
  obtain ⟨g, cap, rfl⟩ : ∃ g cap, v' = .slice (some ⟨g, 0, none⟩) (ws.length + 1) cap := by
    rcases hown'.2 with ⟨_, h0⟩ | ⟨g, cap, cur, hv, _⟩
    · omega
    · exact ⟨g, cap, hv⟩
  go_wp2
  go_end0
  refine ⟨rfl, ?_, ?_, ?_⟩
  · exact IsW.put hB hb2 (by rw [strs_append, List.length_append]; exact hown')
  · exact (((Below.refl B w).alloc (by omega) _).grown hgrow (by simp; omega) (fun k hk => (hown.lt k hk).1)).setCell (p := ⟨p, 0, none⟩) hB _
  · have hz := hgrow.size
    refine ⟨by simp at hz ⊢; omega, fun k hk hkp hr => ?_⟩
    have hvk := hr v hbk
    have e1 : (w2.setCell ⟨p, 0, none⟩ (.slice (some ⟨g, 0, none⟩) (ws.length + 1) cap)).heap[k]? = w2.heap[k]? := Below.heap_setCell _ _ _ _ hkp
    have e2 : w2.heap[k]? = w.heap[k]? := by rw [hgrow.block k (by simp; omega) (fun e => hvk e.symm), Lib.alloc_old w _ k hk]
    refine ⟨e1.trans e2, fun u hu => ?_⟩
    have hnew : (w2.setCell ⟨p, 0, none⟩ (.slice (some ⟨g, 0, none⟩) (ws.length + 1) cap)).heap[p]? = some (.cells #[.slice (some ⟨g, 0, none⟩) (ws.length + 1) cap] 106 (0, 0)) := by
      simp [World.setCell, Array.getElem?_modify, hb2]
    rw [hnew] at hu
    simp at hu
    subst hu
    rcases hat with h4 | h4
    · rw [h4]; exact hvk
    · rw [h4]
      intro e
      have e3 : w.heap.size + 1 = k := Option.some.inj e
      omega
/-- The writer in block p, in a call that began in the world w0: its words, and what lay there before is as it was. -/
structure Ww (w0 : World) (p : Nat) (ws : List ByteArray) (w : World) : Prop where
  is : IsW w0.heap.size p ws w
  bel : Below w0.heap.size w0 w
theorem IsW.keep {B p : Nat} {ws : List ByteArray} {w w' : World} (h : IsW B p ws w) (hb : Below w.heap.size w w') : IsW B p ws w' := by
  have hlt := h.lt
  obtain ⟨hB, v, hbk, hown, hne⟩ := h
  refine ⟨hB, v, by rw [hb.block p hlt]; exact hbk, ⟨hown.1, ?_⟩, hne⟩
  rcases hown.2 with hn | ⟨g, cap, cur, rfl, hbg, hgg, rest⟩
  · exact .inl hn
  · exact .inr ⟨g, cap, cur, rfl, hbg, by rw [hb.block g (Array.getElem?_eq_some_iff.1 hgg).1]; exact hgg, rest⟩
theorem Ww.keep {w0 : World} {p : Nat} {ws : List ByteArray} {w w' : World} (h : Ww w0 p ws w) (hb : Below w.heap.size w w') : Ww w0 p ws w' :=
  ⟨h.is.keep hb, h.bel.trans (hb.mono h.bel.size)⟩
theorem Ww.lt {w0 : World} {p : Nat} {ws : List ByteArray} {w : World} (h : Ww w0 p ws w) : p < w.heap.size := h.is.lt
theorem Ww.gv {w0 : World} {p : Nat} {ws : List ByteArray} {w : World} (h : Ww w0 p ws w) (hg : Gv w0) : Gv w := hg.below h.bel
theorem c_wword {w0 : World} {p : Nat} {ws : List ByteArray} (s : ByteArray) {w : World} (h : Ww w0 p ws w) (hlen : ws.length < 1099511627776) :
    Calls Tryz.prog 61 #[.pointer (some ⟨p, 0, none⟩), .string s] w fun e w' => e = .returned (.tuple #[]) ∧ Ww w0 p (ws ++ [s]) w' ∧ Fr p w w' :=
  (c_word w0.heap.size p ws s w h.is hlen).mono fun _ _ ⟨he, hi, hb, hf⟩ => ⟨he, ⟨hi, h.bel.trans hb⟩, hf⟩
set_option maxRecDepth 100000 in
set_option maxHeartbeats 2000000 in
theorem c_wnum {w0 : World} (hg : Gv w0) {p : Nat} {ws : List ByteArray} (n : Int) (hn : Wf n) {w : World} (h : Ww w0 p ws w) (hlen : ws.length < 1099511627776) :
    Calls Tryz.prog 63 #[.pointer (some ⟨p, 0, none⟩), .int .i64 n] w fun e w' => e = .returned (.tuple #[]) ∧ Ww w0 p (ws ++ [⟨(Lib.itoa n).toArray⟩]) w' ∧ Fr p w w' := by
  have C1 := Lib.hid (fun W (hg : Gv W) => c_itoa n hn W hg)
  have H := Lib.hid h
  have HG := Lib.hid (h.gv hg)
  clear hn
  go_enter Tryz.func63, Tryz.ntmps63
  go_wp2_with (go_at_call 96; refine (C1.out _ HG.out).mono ?_)
  rintro e w1 ⟨rfl, hb1⟩
  have H1 := Lib.hid (h.keep hb1)
  have HF := Lib.hid (Fr.below h.lt hb1)
  clear h
  go_wp2_with (go_at_call 61; refine (c_wword _ H1.out hlen).mono ?_)
  rintro e w2 ⟨rfl, h2, hf⟩
  go_wp2
  go_end0
  exact ⟨rfl, h2, HF.out.trans hf⟩
end Go.Proofs.YtkogcobcjoojnaaGreatDoor.Fl

namespace Go.Proofs.YtkogcobcjoojnaaGreatDoor.Fl
open Go.RowKit Go.Maps
set_option linter.unusedVariables false
set_option linter.unusedSimpArgs false
/-- A row of texts: a slice over the cells of a block. -/
def StrRow (w : World) (v : Value) (xs : List ByteArray) : Prop :=
  ∃ g, v = .slice (some ⟨g, 0, none⟩) xs.length xs.length ∧ ∃ fr, w.heap[g]? = some (.cells (strs xs).toArray 9 fr)
theorem StrRow.lt {w : World} {v : Value} {xs : List ByteArray} (h : StrRow w v xs) : ∃ g, v = .slice (some ⟨g, 0, none⟩) xs.length xs.length ∧ g < w.heap.size := by
  obtain ⟨g, hv, fr, hg⟩ := h
  exact ⟨g, hv, (Array.getElem?_eq_some_iff.1 hg).1⟩
theorem StrRow.cell {w : World} {v : Value} {xs : List ByteArray} (h : StrRow w v xs) : ∃ g, v = .slice (some ⟨g, 0, none⟩) xs.length xs.length ∧ g < w.heap.size ∧ ∀ (j : Nat) x, xs[j]? = some x → w.cell? ⟨g, 0 + j, none⟩ = some (.string x) := by
  obtain ⟨g, hv, fr, hg⟩ := h
  refine ⟨g, hv, (Array.getElem?_eq_some_iff.1 hg).1, fun j x hx => ?_⟩
  rw [Nat.zero_add]
  simp [World.cell?, hg, strs, hx]
theorem StrRow.keep {w w' : World} {v : Value} {xs : List ByteArray} (h : StrRow w v xs) (hb : Below w.heap.size w w') : StrRow w' v xs := by
  obtain ⟨g, hv, fr, hg⟩ := h
  exact ⟨g, hv, fr, by rw [hb.block g (Array.getElem?_eq_some_iff.1 hg).1]; exact hg⟩
set_option maxRecDepth 100000 in
set_option maxHeartbeats 2000000 in
theorem c_names (w : World) : Calls Tryz.prog 62 #[] w fun e w' => e = .returned (.slice (some ⟨w.heap.size, 0, none⟩) 13 13) ∧ w'.heap[w.heap.size]? = some (.cells (strs evN).toArray 9 (0, 0)) ∧ Below w.heap.size w w' := by
  go_enter Tryz.func62, Tryz.ntmps62
  go_wp2
  go_ret
  refine ⟨rfl, ?_, ?_⟩
  · rw [heap_alloc_new]
    rfl
  · exact (Below.refl _ w).alloc (Nat.le_refl _) _
set_option maxRecDepth 100000 in
set_option maxHeartbeats 2000000 in
theorem c_muts (w : World) : Calls Tryz.prog 132 #[] w fun e w' => e = .returned (.slice (some ⟨w.heap.size, 0, none⟩) 4 4) ∧ w'.heap[w.heap.size]? = some (.cells (strs mutN).toArray 9 (0, 0)) ∧ Below w.heap.size w w' := by
  go_enter Tryz.func132, Tryz.ntmps132
  go_wp2
  go_ret
  refine ⟨rfl, ?_, ?_⟩
  · rw [heap_alloc_new]
    rfl
  · exact (Below.refl _ w).alloc (Nat.le_refl _) _
set_option maxRecDepth 100000 in
set_option maxHeartbeats 2000000 in
theorem c_changes (w : World) : Calls Tryz.prog 102 #[] w fun e w' => e = .returned (.slice (some ⟨w.heap.size, 0, none⟩) 5 5) ∧ w'.heap[w.heap.size]? = some (.cells (strs chgN).toArray 9 (0, 0)) ∧ Below w.heap.size w w' := by
  go_enter Tryz.func102, Tryz.ntmps102
  go_wp2
  go_ret
  refine ⟨rfl, ?_, ?_⟩
  · rw [heap_alloc_new]
    rfl
  · exact (Below.refl _ w).alloc (Nat.le_refl _) _
set_option maxRecDepth 100000 in
set_option maxHeartbeats 2000000 in
theorem c_requests (w : World) : Calls Tryz.prog 97 #[] w fun e w' => e = .returned (.slice (some ⟨w.heap.size, 0, none⟩) 3 3) ∧ w'.heap[w.heap.size]? = some (.cells (strs reqN).toArray 9 (0, 0)) ∧ Below w.heap.size w w' := by
  go_enter Tryz.func97, Tryz.ntmps97
  go_wp2
  go_ret
  refine ⟨rfl, ?_, ?_⟩
  · rw [heap_alloc_new]
    rfl
  · exact (Below.refl _ w).alloc (Nat.le_refl _) _
set_option maxRecDepth 100000 in
set_option maxHeartbeats 2000000 in
theorem c_qualified (k : Int) (w : World) : Calls Tryz.prog 103 #[.int .i64 k] w fun e w' => e = .returned (.bool (decide (k = 3 ∨ k = 4))) ∧ w = w' := by
  go_enter Tryz.func103, Tryz.ntmps103
  go_wp2
  · rename_i h
    subst h
    go_ret
    exact ⟨rfl, rfl⟩
  · rename_i h
    go_ret
    refine ⟨?_, rfl⟩
    show Ending.returned (Value.bool (k == 3 || k == 4)) = _
    rw [show (k == 3) = false by simpa using h, Bool.false_or, show decide (k = 3 ∨ k = 4) = decide (k = 4) by simp [h]]
    rfl
theorem showV_size3 (k n : Int) (s : ByteArray) (hn : Wf n) (hs : s.size ≤ 140737488351232) : (showV k n s).size ≤ 100 := by
  cases h : rightV k n s with
  | false => rw [show_wrong h]; decide
  | true =>
    have hq := quo_size s
    have hS := showS_size n
    rcases show_form h with ⟨_, _, e⟩ | ⟨_, _, _, e⟩ | ⟨_, _, _, e⟩ | ⟨_, _, _, e⟩ | ⟨rfl, _, e⟩ | ⟨rfl, _, e⟩ <;> rw [e]
    · have h1 := dec_len 20 n.natAbs (by omega) (by unfold Wf at hn; simp; omega)
      have h2 := dec_len 20 n.toNat (by omega) (by unfold Wf at hn; simp; omega)
      rw [Lib.size_mk]
      unfold Lib.itoa
      split
      · rw [List.length_cons]; omega
      · omega
    · decide
    · decide
    · rw [ByteArray.size_append]; show 1 + _ ≤ _; omega
    all_goals
      rw [ByteArray.size_append]
      show 1 + _ ≤ _
      have : s.size ≤ 32 := by rcases right_kinds h with ⟨e, c⟩ | ⟨e, c, c2⟩ | ⟨e, c, c2⟩ | ⟨e, e2, c⟩ | ⟨e, e2, c, c2⟩ <;> omega
      have := hq this
      omega
theorem c_spaced (s : ByteArray) (hs : s.size ≤ 1000000) (w : World) (hg : Gv w) :
    Calls Tryz.prog 130 #[.string s, .string ⟨#[32]⟩, .string ⟨#[92, 50, 48]⟩] w fun e w' => e = .returned (.string ⟨(spc s.data.toList).toArray⟩) ∧ Below w.heap.size w w' := by
  obtain ⟨m, hm⟩ := hg.ml
  have hc := Lib.countB_le ⟨#[32]⟩ (by decide) s.size s (Nat.le_refl _)
  refine (Tryz.strings_ReplaceAll s ⟨#[32]⟩ ⟨#[92, 50, 48]⟩ m w (by omega) hm (by decide) (by show _ + _ * 3 ≤ _; omega)).mono ?_
  rintro e w' ⟨rfl, hb⟩
  refine ⟨?_, hb⟩
  rw [Sc.replaceAll_repl (by decide)]
  show Ending.returned (Value.string ⟨(Sc.repl [32] [92, 50, 48] s.data.toList).toArray⟩) = _
  rw [repl_spc]
set_option maxRecDepth 100000 in
set_option maxHeartbeats 4000000 in
theorem c_wvalue {w0 : World} (hg : Gv w0) {p : Nat} {ws : List ByteArray} (k n : Int) (s : ByteArray) (hn : Wf n) (hv : noVal k n s = true ∨ rightV k n s = true) {w : World} (h : Ww w0 p ws w) (hlen : ws.length < 1099511627776) :
    Calls Tryz.prog 100 #[.pointer (some ⟨p, 0, none⟩), vv k n s] w fun e w' => e = .returned (.tuple #[]) ∧ Ww w0 p (ws ++ [wVal k n s]) w' ∧ Fr p w w' := by
  have HF0 := Lib.hid (Fr.below h.lt ((Below.refl w.heap.size w).alloc (Nat.le_refl _) (.cells #[.int .i64 k, .int .i64 n, .string s] 30)))
  have H0 := Lib.hid (h.keep ((Below.refl w.heap.size w).alloc (Nat.le_refl _) (.cells #[.int .i64 k, .int .i64 n, .string s] 30)))
  rcases hv with hv | hv
  · obtain ⟨rfl, rfl, rfl⟩ : k = 0 ∧ n = 0 ∧ s = noB := by
      simpa [noVal, and_assoc] using hv
    rw [show wVal 0 0 noB = wNone from if_pos rfl]
    unfold vv
    unfold noB at *
    clear h hv hn
    go_enter Tryz.func100, Tryz.ntmps100
    go_wp2_with (go_at_call 61; refine (c_wword _ H0.out hlen).mono ?_)
    rintro e w2 ⟨rfl, h2, hf⟩
    go_wp2
    refine bodyPost_ret (results_none rfl _ _ _) rfl ?_
    exact ⟨rfl, h2, HF0.out.trans hf⟩
  · have hk : ¬ k = 0 := by
      rcases right_kinds hv with ⟨e, c⟩ | ⟨e, c, c2⟩ | ⟨e, c, c2⟩ | ⟨e, e2, c⟩ | ⟨e, e2, c, c2⟩ <;> omega
    have hs : s.size ≤ 32 := by rcases right_kinds hv with ⟨e, c⟩ | ⟨e, c, c2⟩ | ⟨e, c, c2⟩ | ⟨e, e2, c⟩ | ⟨e, e2, c, c2⟩ <;> omega
    rw [show wVal k n s = ⟨(spc (showV k n s).data.toList).toArray⟩ from if_neg hk]
    have C1 := Lib.hid (fun W (hg : Gv W) => c_vshow k n s hn (by omega) W hg)
    have C2 := Lib.hid (fun W (hg : Gv W) => c_spaced (showV k n s) (by have := showV_size3 k n s hn (by omega); omega) W hg)
    have HG := Lib.hid hg
    generalize showV k n s = t at *
    have hk0 : (k == 0) = false := by simpa using hk
    unfold vv at C1 ⊢
    clear h hn hv hs hk hg
    go_enter Tryz.func100, Tryz.ntmps100
    go_wp2_with (go_at_call 131; refine (C1.out _ (H0.out.gv HG.out)).mono ?_)
    rintro e w1 ⟨rfl, hb1⟩
    have H1 := Lib.hid (H0.out.keep hb1)
    have HF1 := Lib.hid (HF0.out.trans (Fr.below H0.out.lt hb1))
    clear hb1 HF0
    go_wp2_with (go_at_call 130; refine (C2.out _ (H1.out.gv HG.out)).mono ?_)
    rintro e w2 ⟨rfl, hb2⟩
    have H2 := Lib.hid (H1.out.keep hb2)
    have HF2 := Lib.hid (HF1.out.trans (Fr.below H1.out.lt hb2))
    clear hb2 HF1
    go_wp2_with (go_at_call 61; refine (c_wword _ H2.out hlen).mono ?_)
    rintro e w3 ⟨rfl, h3, hf⟩
    go_wp2
    go_end0
    exact ⟨rfl, h3, HF2.out.trans hf⟩
end Go.Proofs.YtkogcobcjoojnaaGreatDoor.Fl

namespace Go.Proofs.YtkogcobcjoojnaaGreatDoor.Fl
open Go.RowKit Go.Maps
set_option linter.unusedVariables false
set_option linter.unusedSimpArgs false
set_option maxHeartbeats 4000000 in
set_option maxRecDepth 100000 in
theorem c_wtext {w0 : World} {p : Nat} {ws : List ByteArray} (s : ByteArray) (hs : s.size ≤ 1000000) {w : World} (h : Ww w0 p ws w) (hlen : ws.length < 1099511627776) :
    Calls Tryz.prog 98 #[.pointer (some ⟨p, 0, none⟩), .string s] w fun e w' => e = .returned (.tuple #[]) ∧ Ww w0 p (ws ++ [wText s]) w' ∧ Fr p w w' := by
  have HSZ := Lib.hid hs
  have H0 := Lib.hid h
  unfold wText
  clear h
  have kc := fun (w : World) => run_bytes_of_string (P := Tryz.prog) w 9 58 5 s Tryz.underlying9 Tryz.underlying58 Tryz.underlying5
  have kc2 : ∀ w : World, (convert 9 58 (.string s)).run Tryz.prog w = .ok (.slice (some ⟨w.heap.size, 0, none⟩) s.size (grownCap w s.size 0 5)) (wb w s) := kc
  clear kc
  go_enter Tryz.func98, Tryz.ntmps98
  go_wp2
  have hw0 : (w.alloc (.cells #[.int .u8 34] 5)).heap.size = w.heap.size + 1 := by simp
  have hbw := wb_below (w.alloc (.cells #[.int .u8 34] 5)) s
  have HO0 := Lib.hid ((OwnB.row w [34] w.heap.size (Nat.le_refl _) (by decide)).below hbw)
  have HB0 := Lib.hid (((Below.refl w.heap.size w).alloc (Nat.le_refl _) (.cells #[.int .u8 34] 5)).trans (hbw.mono (by simp)))
  have HA0 := Lib.hid (show Apart (wb (w.alloc (.cells #[.int .u8 34] 5)) s) (w.heap.size + 1) s (.slice (some ⟨w.heap.size, 0, none⟩) 1 1) from ⟨fun k hk => by rw [← hw0]; exact wb_cell _ s k hk, by
      have h1 := heap_alloc_new (w.alloc (.cells #[.int .u8 34] 5)).drew (.cells (bytesRow s (grownCap (w.alloc (.cells #[.int .u8 34] 5)) s.size 0 5)) 5 ((bytesRow s (grownCap (w.alloc (.cells #[.int .u8 34] 5)) s.size 0 5)).size, (bytesRow s (grownCap (w.alloc (.cells #[.int .u8 34] 5)) s.size 0 5)).size + 1))
      have h2 := lt_block h1
      rw [show (w.alloc (.cells #[.int .u8 34] 5)).drew.heap.size = w.heap.size + 1 from hw0] at h2
      exact h2, by simp [Value.ownBlock]⟩)
  clear hbw hw0
  generalize wb (w.alloc (.cells #[.int .u8 34] 5)) s = wB at HO0 HB0 HA0 ⊢
  generalize grownCap (w.alloc (.cells #[.int .u8 34] 5)) s.size 0 5 = cB
  go_loopw [4, 11] (fun v3 v10 W => ∃ i : Nat, i ≤ s.size ∧ v10 = .int .i64 i ∧ Hid (OwnB W w.heap.size v3 ([34] ++ qq3 ((byt s).take i))) ∧ Hid (Below w.heap.size w W) ∧ Hid (Apart W (w.heap.size + 1) s v3)) (fun _ v10 _ => s.size - (intOf v10).toNat)
  case atStart => exact ⟨0, by omega, rfl, HO0, HB0, HA0⟩
  case round =>
    obtain ⟨i, hi, rfl, HO, HW, HA⟩ := hrel
    clear HO0 HB0 HA0
    by_cases hlt : i < s.size
    · have t1 : decide ((i : Int) < (s.size : Int)) = true := decide_eq_true (by omega)
      have x0 := HA.out.cell i hlt
      have hk0 : (0 : Int) ≤ (i : Int) := by omega
      have hk1 : (i : Int) < (s.size : Int) := by omega
      have hxb := byts_at (byt_bd s) i (by rw [byt_len]; exact hlt)
      have HN := Lib.hid (qq3_next (byt s) i (by rw [byt_len]; exact hlt))
      have HL := Lib.hid (show (qq3 ((byt s).take i)).length ≤ 3000000 by have h1 := qq3_len ((byt s).take i); have h2 := HSZ.out; rw [List.length_take] at h1; omega)
      generalize (byt s).getD i 0 = x at x0 HN hxb
      generalize qq3 ((byt s).take i) = l at HO HN HL
      have d1 := dig_u8 (x / 16) (by omega) (by omega)
      have d2 := dig_u8 (x % 16) (by omega) (by omega)
      have m2 : bits .and .u8 x 15 = x % 16 := bits_mask .u8 8 (by decide) (fun n h0 h1 => by unfold IntKind.wrap; simp [IntKind.bits, IntKind.signed]; omega) 4 (by decide) x hxb.1 (by simpa using hxb.2)
      by_cases c1 : x ≤ 32
      · have t2 : decide (x ≤ 32) = true := decide_eq_true c1
        have HQ := Lib.hid (show qc3 x = [92, hx (x / 16), hx (x % 16)] by unfold qc3; rw [if_pos (by omega)])
        clear hxb
        go_wp2
        go_region_held3 (fun _ => True) (exact trivial) (first | (refine step_append_b4 rfl (.tmp 29) (.tmp 36) rfl w.heap.size _ _ ([34] ++ l) [92, hx (x / 16), hx (x % 16)] rfl rfl ?o1 ?s1 ?l1 ?b1 ?_; (case o1 => first | exact HO.out.drew.alloc _ | exact HO.out.alloc _ | exact (HO.out.alloc _).drew); (case s1 => exact SrcB.row _ [92, hx (x / 16), hx (x % 16)]); (case l1 => have := HL.out; simp; omega); (case b1 => have := HW.out.size; simp; omega); intro v2 w2 ho hb2 hg2 h4; have HO2 := Lib.hid ho; have HW2 := Lib.hid (by first | exact (HW.out.drew.alloc HW.out.size _).trans hb2 | exact (HW.out.alloc HW.out.size _).drew.trans hb2 | exact (HW.out.alloc HW.out.size _).trans hb2); have HA2 := Lib.hid (HA.out.next (by first | exact (Below.refl _ _).drew.alloc (Nat.le_refl _) _ | exact ((Below.refl _ _).alloc (Nat.le_refl _) _).drew | exact (Below.refl _ _).alloc (Nat.le_refl _) _) hg2 h4); clear ho hb2 hg2 h4))
        all_goals (go_wp2; go_roundw; (case rel => exact ⟨i + 1, by omega, by go_num, Lib.hid (by rw [HN.out, HQ.out, ← List.append_assoc]; exact HO2.out), HW2, HA2⟩); (case measure => simp [intOf]; omega))
      · have t2 : decide (x ≤ 32) = false := decide_eq_false c1
        by_cases c2 : 126 < x
        · have t3 : decide (126 < x) = true := decide_eq_true c2
          have HQ := Lib.hid (show qc3 x = [92, hx (x / 16), hx (x % 16)] by unfold qc3; rw [if_pos (by omega)])
          clear hxb
          go_wp2
          go_region_held3 (fun _ => True) (exact trivial) (first | (refine step_append_b4 rfl (.tmp 29) (.tmp 36) rfl w.heap.size _ _ ([34] ++ l) [92, hx (x / 16), hx (x % 16)] rfl rfl ?o1 ?s1 ?l1 ?b1 ?_; (case o1 => first | exact HO.out.drew.alloc _ | exact HO.out.alloc _ | exact (HO.out.alloc _).drew); (case s1 => exact SrcB.row _ [92, hx (x / 16), hx (x % 16)]); (case l1 => have := HL.out; simp; omega); (case b1 => have := HW.out.size; simp; omega); intro v2 w2 ho hb2 hg2 h4; have HO2 := Lib.hid ho; have HW2 := Lib.hid (by first | exact (HW.out.drew.alloc HW.out.size _).trans hb2 | exact (HW.out.alloc HW.out.size _).drew.trans hb2 | exact (HW.out.alloc HW.out.size _).trans hb2); have HA2 := Lib.hid (HA.out.next (by first | exact (Below.refl _ _).drew.alloc (Nat.le_refl _) _ | exact ((Below.refl _ _).alloc (Nat.le_refl _) _).drew | exact (Below.refl _ _).alloc (Nat.le_refl _) _) hg2 h4); clear ho hb2 hg2 h4))
          all_goals (go_wp2; go_roundw; (case rel => exact ⟨i + 1, by omega, by go_num, Lib.hid (by rw [HN.out, HQ.out, ← List.append_assoc]; exact HO2.out), HW2, HA2⟩); (case measure => simp [intOf]; omega))
        · have t3 : decide (126 < x) = false := decide_eq_false c2
          by_cases c3 : x = 34
          · have t4 : (x == 34) = true := by simp [c3]
            have HQ := Lib.hid (show qc3 x = [92, hx (x / 16), hx (x % 16)] by unfold qc3; rw [if_pos (by omega)])
            clear hxb c3
            go_wp2
            go_region_held3 (fun _ => True) (exact trivial) (first | (refine step_append_b4 rfl (.tmp 29) (.tmp 36) rfl w.heap.size _ _ ([34] ++ l) [92, hx (x / 16), hx (x % 16)] rfl rfl ?o1 ?s1 ?l1 ?b1 ?_; (case o1 => first | exact HO.out.drew.alloc _ | exact HO.out.alloc _ | exact (HO.out.alloc _).drew); (case s1 => exact SrcB.row _ [92, hx (x / 16), hx (x % 16)]); (case l1 => have := HL.out; simp; omega); (case b1 => have := HW.out.size; simp; omega); intro v2 w2 ho hb2 hg2 h4; have HO2 := Lib.hid ho; have HW2 := Lib.hid (by first | exact (HW.out.drew.alloc HW.out.size _).trans hb2 | exact (HW.out.alloc HW.out.size _).drew.trans hb2 | exact (HW.out.alloc HW.out.size _).trans hb2); have HA2 := Lib.hid (HA.out.next (by first | exact (Below.refl _ _).drew.alloc (Nat.le_refl _) _ | exact ((Below.refl _ _).alloc (Nat.le_refl _) _).drew | exact (Below.refl _ _).alloc (Nat.le_refl _) _) hg2 h4); clear ho hb2 hg2 h4))
            all_goals (go_wp2; go_roundw; (case rel => exact ⟨i + 1, by omega, by go_num, Lib.hid (by rw [HN.out, HQ.out, ← List.append_assoc]; exact HO2.out), HW2, HA2⟩); (case measure => simp [intOf]; omega))
          · have t4 : (x == 34) = false := by simp [c3]
            by_cases c4 : x = 92
            · have t5 : (x == 92) = true := by simp [c4]
              have HQ := Lib.hid (show qc3 x = [92, hx (x / 16), hx (x % 16)] by unfold qc3; rw [if_pos (by omega)])
              clear hxb c4
              go_wp2
              go_region_held3 (fun _ => True) (exact trivial) (first | (refine step_append_b4 rfl (.tmp 29) (.tmp 36) rfl w.heap.size _ _ ([34] ++ l) [92, hx (x / 16), hx (x % 16)] rfl rfl ?o1 ?s1 ?l1 ?b1 ?_; (case o1 => first | exact HO.out.drew.alloc _ | exact HO.out.alloc _ | exact (HO.out.alloc _).drew); (case s1 => exact SrcB.row _ [92, hx (x / 16), hx (x % 16)]); (case l1 => have := HL.out; simp; omega); (case b1 => have := HW.out.size; simp; omega); intro v2 w2 ho hb2 hg2 h4; have HO2 := Lib.hid ho; have HW2 := Lib.hid (by first | exact (HW.out.drew.alloc HW.out.size _).trans hb2 | exact (HW.out.alloc HW.out.size _).drew.trans hb2 | exact (HW.out.alloc HW.out.size _).trans hb2); have HA2 := Lib.hid (HA.out.next (by first | exact (Below.refl _ _).drew.alloc (Nat.le_refl _) _ | exact ((Below.refl _ _).alloc (Nat.le_refl _) _).drew | exact (Below.refl _ _).alloc (Nat.le_refl _) _) hg2 h4); clear ho hb2 hg2 h4))
              all_goals (go_wp2; go_roundw; (case rel => exact ⟨i + 1, by omega, by go_num, Lib.hid (by rw [HN.out, HQ.out, ← List.append_assoc]; exact HO2.out), HW2, HA2⟩); (case measure => simp [intOf]; omega))
            · have t5 : (x == 92) = false := by simp [c4]
              have HQ := Lib.hid (show qc3 x = [x] by unfold qc3; rw [if_neg (by omega)])
              clear d1 d2 m2
              clear hxb
              go_wp2_with (at_builtin; refine wp_append_b4 rfl (.tmp 38) (.tmp 40) rfl w.heap.size _ _ ([34] ++ l) [x] rfl rfl ?o1 ?s1 ?l1 ?b1 ?_; (case o1 => first | exact HO.out.drew.alloc _ | exact HO.out.alloc _ | exact (HO.out.alloc _).drew); (case s1 => exact SrcB.row _ [x]); (case l1 => have := HL.out; simp; omega); (case b1 => have := HW.out.size; simp; omega); intro v2 w2 ho hb2 hg2 h4; have HO2 := Lib.hid ho; have HW2 := Lib.hid (by first | exact (HW.out.drew.alloc HW.out.size _).trans hb2 | exact (HW.out.alloc HW.out.size _).drew.trans hb2 | exact (HW.out.alloc HW.out.size _).trans hb2); have HA2 := Lib.hid (HA.out.next (by first | exact (Below.refl _ _).drew.alloc (Nat.le_refl _) _ | exact ((Below.refl _ _).alloc (Nat.le_refl _) _).drew | exact (Below.refl _ _).alloc (Nat.le_refl _) _) hg2 h4); clear ho hb2 hg2 h4)
              go_roundw
              case rel => exact ⟨i + 1, by omega, by go_num, Lib.hid (by rw [HN.out, HQ.out, ← List.append_assoc]; exact HO2.out), HW2, HA2⟩
              case measure => simp [intOf]; omega
    · have t1 : decide ((i : Int) < (s.size : Int)) = false := decide_eq_false (by omega)
      have HE := Lib.hid (show (byt s).take i = byt s from List.take_of_length_le (by rw [byt_len]; omega))
      have HL := Lib.hid (show (qq3 (byt s)).length ≤ 3000000 by have h1 := qq3_len (byt s); have h2 := HSZ.out; rw [byt_len] at h1; omega)
      rw [HE.out] at HO
      clear HE
      go_wp2_with (at_builtin; refine wp_append_b rfl (.tmp 44) (.tmp 45) rfl w.heap.size _ _ ([34] ++ qq3 (byt s)) [34] rfl rfl ?o1 ?s1 ?l1 ?b1 ?_; (case o1 => exact HO.out.alloc _); (case s1 => exact SrcB.row wr [34]); (case l1 => have := HL.out; simp; omega); (case b1 => have := HW.out.size; simp; omega); intro v2 w2 ho hb2 hg2; have HW2 := Lib.hid ((HW.out.alloc HW.out.size _).trans hb2); have kc := conv_has w2 v2 _ ho.has (quo3_byts (byt s) (byt_bd s)); clear ho hb2 hg2)
      have kc3 : (convert 58 9 v2).run Tryz.prog w2 = .ok (.string (txt (quo3 (byt s)))) w2 := kc
      clear kc
      have H2 := Lib.hid (H0.out.keep HW2.out)
      have HF := Lib.hid (Fr.below H0.out.lt HW2.out)
      go_wp2_with (go_at_call 61; refine (c_wword _ H2.out hlen).mono ?_)
      rintro e w3 ⟨rfl, h3, hf⟩
      go_wp2
      go_end0
      exact ⟨rfl, h3, HF.out.trans hf⟩
end Go.Proofs.YtkogcobcjoojnaaGreatDoor.Fl

namespace Go.Proofs.YtkogcobcjoojnaaGreatDoor.Fl
open Go.RowKit Go.Maps
set_option linter.unusedVariables false
set_option linter.unusedSimpArgs false
def mv (m : MutE) : Value := .agg #[.int .i64 m.kind, .string m.fam, .string m.qual, .int .i64 m.vk, .int .i64 m.vn, .string m.vs]
def mcells (m : MutE) : Array Value := #[.int .i64 m.kind, .string m.fam, .string m.qual, .int .i64 m.vk, .int .i64 m.vn, .string m.vs]
/-- A writer at work, and a box at block b that is none of its own. -/
structure Wb (w0 : World) (p : Nat) (ws : List ByteArray) (b : Nat) (cs : Array Value) (T : TypeId) (w : World) : Prop where
  ww : Ww w0 p ws w
  box : w.heap[b]? = some (.cells cs T (0, 0))
  ne : b ≠ p
  nr : NotRow p b w
theorem Wb.blt {w0 : World} {p : Nat} {ws : List ByteArray} {b : Nat} {cs : Array Value} {T : TypeId} {w : World} (h : Wb w0 p ws b cs T w) : b < w.heap.size := (Array.getElem?_eq_some_iff.1 h.box).1
theorem Wb.next {w0 : World} {p : Nat} {ws ws' : List ByteArray} {b : Nat} {cs : Array Value} {T : TypeId} {w w' : World} (h : Wb w0 p ws b cs T w) (hw : Ww w0 p ws' w') (hf : Fr p w w') : Wb w0 p ws' b cs T w' := by
  obtain ⟨e, r⟩ := hf.keeps b h.blt h.ne h.nr
  exact ⟨hw, e.trans h.box, h.ne, r⟩
theorem Wb.keep {w0 : World} {p : Nat} {ws : List ByteArray} {b : Nat} {cs : Array Value} {T : TypeId} {w w' : World} (h : Wb w0 p ws b cs T w) (hb : Below w.heap.size w w') : Wb w0 p ws b cs T w' := h.next (h.ww.keep hb) (Fr.below h.ww.lt hb)
theorem Wb.drew {w0 : World} {p : Nat} {ws : List ByteArray} {b : Nat} {cs : Array Value} {T : TypeId} {w : World} (h : Wb w0 p ws b cs T w) : Wb w0 p ws b cs T w.drew := h.keep (Below.refl _ _).drew
theorem Ww.box {w0 : World} {p : Nat} {ws : List ByteArray} {w : World} (h : Ww w0 p ws w) (cs : Array Value) (T : TypeId) : Wb w0 p ws w.heap.size cs T (w.alloc (.cells cs T)) := by
  have hb := (Below.refl w.heap.size w).alloc (Nat.le_refl _) (.cells cs T)
  refine ⟨h.keep hb, heap_alloc_new w _, by have := h.lt; omega, fun v hv e => ?_⟩
  obtain ⟨hB, v', hbk, hown, hne⟩ := h.is
  have e1 : (w.alloc (.cells cs T)).heap[p]? = w.heap[p]? := hb.block p h.lt
  rw [e1, hbk] at hv
  simp at hv
  subst hv
  have := (hown.lt _ e).2
  omega
theorem Wb.cell {w0 : World} {p : Nat} {ws : List ByteArray} {b : Nat} {cs : Array Value} {T : TypeId} {w : World} (h : Wb w0 p ws b cs T w) (j : Nat) (v : Value) (hj : cs[j]? = some v) : w.cell? ⟨b, j, none⟩ = some v := by
  simp [World.cell?, h.box, hj]
theorem Wb.fr {w0 : World} {p : Nat} {ws ws' : List ByteArray} {w w' : World} (cs : Array Value) (T : TypeId) (h : Ww w0 p ws w) (hf : Fr p (w.alloc (.cells cs T)) w') : Fr p w w' :=
  (Fr.below h.lt ((Below.refl w.heap.size w).alloc (Nat.le_refl _) (.cells cs T))).trans hf
theorem Wb.mcell {w0 : World} {p : Nat} {ws : List ByteArray} {b : Nat} {m : MutE} {w : World} (h : Wb w0 p ws b (mcells m) 90 w) :
    w.cell? ⟨b, 0, none⟩ = some (.int .i64 m.kind) ∧ w.cell? ⟨b, 1, none⟩ = some (.string m.fam) ∧ w.cell? ⟨b, 2, none⟩ = some (.string m.qual) ∧ w.cell? ⟨b, 3, none⟩ = some (.int .i64 m.vk) ∧ w.cell? ⟨b, 4, none⟩ = some (.int .i64 m.vn) ∧ w.cell? ⟨b, 5, none⟩ = some (.string m.vs) :=
  ⟨h.cell 0 _ rfl, h.cell 1 _ rfl, h.cell 2 _ rfl, h.cell 3 _ rfl, h.cell 4 _ rfl, h.cell 5 _ rfl⟩
end Go.Proofs.YtkogcobcjoojnaaGreatDoor.Fl

namespace Go.Proofs.YtkogcobcjoojnaaGreatDoor.Fl
open Go.RowKit Go.Maps
set_option linter.unusedVariables false
set_option linter.unusedSimpArgs false
theorem mutKinds {m : MutE} (h : mutOk m = true) : (m.kind = 1 ∧ rightV m.vk m.vn m.vs = true) ∨ m.kind = 2 ∨ m.kind = 3 ∨ m.kind = 4 := by
  unfold mutOk at h
  by_cases h1 : m.kind = 1
  · rw [if_pos h1] at h
    simp only [Bool.and_eq_true] at h
    exact Or.inl ⟨h1, h.2⟩
  · by_cases h2 : m.kind = 2
    · exact Or.inr (Or.inl h2)
    · by_cases h3 : m.kind = 3
      · exact Or.inr (Or.inr (Or.inl h3))
      · by_cases h4 : m.kind = 4
        · exact Or.inr (Or.inr (Or.inr h4))
        · rw [if_neg h1, if_neg h2, if_neg h3, if_neg h4] at h
          cases h
set_option maxRecDepth 100000 in
set_option maxHeartbeats 4000000 in
theorem c_wmut1 {w0 : World} (hg : Gv w0) {p : Nat} {ws : List ByteArray} (m : MutE) (hm : m.kind = 1) (hq : m.qual.size ≤ 1000000) (hn : Wf m.vn) (hv : noVal m.vk m.vn m.vs = true ∨ rightV m.vk m.vn m.vs = true) {w : World} (h : Ww w0 p ws w) (hlen : ws.length < 1099511620000) :
    Calls Tryz.prog 101 #[.pointer (some ⟨p, 0, none⟩), mv m] w fun e w' => e = .returned (.tuple #[]) ∧ Ww w0 p (ws ++ wMut m) w' ∧ Fr p w w' := by
  obtain ⟨k, fam, qual, vk, vn, vs⟩ := m
  simp only at hm hq hn hv
  subst hm
  have HA0 := Lib.hid (h.box (mcells ⟨1, fam, qual, vk, vn, vs⟩) 90)
  have HF0 := Lib.hid (Fr.below h.lt ((Below.refl w.heap.size w).alloc (Nat.le_refl _) (.cells (mcells ⟨1, fam, qual, vk, vn, vs⟩) 90)))
  rw [show wMut ⟨1, fam, qual, vk, vn, vs⟩ = [wPut, fam, wText qual, wVal vk vn vs] from rfl]
  simp only [mv, mcells] at HA0 HF0 ⊢
  clear h
  have k3 : IntKind.i64.wrap 0 = 0 := by decide
  go_enter Tryz.func101, Tryz.ntmps101
  go_wp2_with fail
  have HA1 := Lib.hid HA0.out.drew
  have HFD := Lib.hid (HF0.out.trans (Fr.below HA0.out.ww.lt (Below.refl _ _).drew))
  refine wp_region_held_drew (S := fun X => ∃ u, Wb w0 p u w.heap.size (mcells ⟨1, fam, qual, vk, vn, vs⟩) 90 X) (by kernel_rfl) ⟨_, HA1.out⟩ (fun hHeld => ?_)
  refine tk 0 (v := ?v_101) ?y101 ?_; (case y101 => (refine Or.inl ⟨by rfl, ?_⟩; intro w hSw; obtain ⟨_, hW⟩ := hSw; obtain ⟨x0, x1, x2, x3, x4, x5⟩ := hW.mcell; simp only at x0 x1 x2 x3 x4 x5; have k3 : IntKind.i64.wrap 0 = 0 := (by decide); go_simp; first | done | with_reducible rfl)); (try simp only [Act.put, List.setIfInBounds_toArray, List.set_cons_zero, List.set_cons_succ])
  refine tk 2 (v := ?v_102) ?y102 ?_; (case y102 => (refine Or.inl ⟨by rfl, ?_⟩; intro w hSw; obtain ⟨_, hW⟩ := hSw; obtain ⟨x0, x1, x2, x3, x4, x5⟩ := hW.mcell; simp only at x0 x1 x2 x3 x4 x5; have k3 : IntKind.i64.wrap 0 = 0 := (by decide); go_simp; first | done | with_reducible rfl)); (try simp only [Act.put, List.setIfInBounds_toArray, List.set_cons_zero, List.set_cons_succ])
  refine tk 3 (v := ?v_103) ?y103 ?_; (case y103 => (refine Or.inl ⟨by rfl, ?_⟩; intro w hSw; obtain ⟨_, hW⟩ := hSw; obtain ⟨x0, x1, x2, x3, x4, x5⟩ := hW.mcell; simp only at x0 x1 x2 x3 x4 x5; have k3 : IntKind.i64.wrap 0 = 0 := (by decide); go_simp; first | done | with_reducible rfl)); (try simp only [Act.put, List.setIfInBounds_toArray, List.set_cons_zero, List.set_cons_succ])
  refine tk 4 (v := ?v_104) ?y104 ?_; (case y104 => (refine Or.inl ⟨by rfl, ?_⟩; intro w hSw; obtain ⟨_, hW⟩ := hSw; obtain ⟨x0, x1, x2, x3, x4, x5⟩ := hW.mcell; simp only at x0 x1 x2 x3 x4 x5; have k3 : IntKind.i64.wrap 0 = 0 := (by decide); go_simp; first | done | with_reducible rfl)); (try simp only [Act.put, List.setIfInBounds_toArray, List.set_cons_zero, List.set_cons_succ])
  refine wpAnyH_ready (rs := [1]) (by kernel_rfl) (by simp) ?_; refine AllReadyH.cons (o := ?o_105) ?hi_105 (fun K hK => ?_) AllReadyH.nil; (case hi_105 => (simp only [List.getElem?_toArray, List.getElem?_cons_zero, List.getElem?_cons_succ]; rfl)); go_simp; (go_at_call 132; ((refine (c_muts _).mono ?_); rintro e w2 ⟨rfl, hr2, hb2⟩; have HA2 := Lib.hid (HA1.out.keep hb2); have hr3 : w2.heap[w.heap.size + 1]? = some (.cells (strs mutN).toArray 9 (0, 0)) := (by simpa using hr2); have c3 : w2.cell? ⟨w.heap.size + 1, 0, none⟩ = some (.string wPut) := (by simp [World.cell?, hr3, strs, mutN]); have HF1 := Lib.hid (HFD.out.trans (Fr.below HA1.out.ww.lt hb2)))); refine hK.out _ _ ?_ (fun hHeld => ?_); (· exact ⟨_, HA2.out⟩); clear hK K; (try simp only [Act.put, List.setIfInBounds_toArray, List.set_cons_zero, List.set_cons_succ])
  refine tk 5 (v := ?v_106) ?y106 ?_; (case y106 => (refine Or.inl ⟨by rfl, ?_⟩; intro w hSw; obtain ⟨_, hW⟩ := hSw; obtain ⟨x0, x1, x2, x3, x4, x5⟩ := hW.mcell; simp only at x0 x1 x2 x3 x4 x5; have k3 : IntKind.i64.wrap 0 = 0 := (by decide); go_simp; first | done | with_reducible rfl)); (try simp only [Act.put, List.setIfInBounds_toArray, List.set_cons_zero, List.set_cons_succ])
  refine wpAnyH_ready (rs := [6]) (by kernel_rfl) (by simp) ?_; refine AllReadyH.cons (o := ?o_107) ?hi_107 (fun K hK => ?_) AllReadyH.nil; (case hi_107 => (simp only [List.getElem?_toArray, List.getElem?_cons_zero, List.getElem?_cons_succ]; rfl)); go_simp; skip; refine hK.out _ _ ?_ (fun hHeld => ?_); (· exact ⟨_, HA2.out⟩); clear hK K; (try simp only [Act.put, List.setIfInBounds_toArray, List.set_cons_zero, List.set_cons_succ])
  refine wpAnyH_ready (rs := [7]) (by kernel_rfl) (by simp) ?_; refine AllReadyH.cons (o := ?o_108) ?hi_108 (fun K hK => ?_) AllReadyH.nil; (case hi_108 => (simp only [List.getElem?_toArray, List.getElem?_cons_zero, List.getElem?_cons_succ]; rfl)); go_simp; (go_at_call 61; ((refine (c_wword _ HA2.out.ww (by omega)).mono ?_); rintro e w3 ⟨rfl, h3, hf3⟩; have HA3 := Lib.hid (HA2.out.next h3 hf3); have HF2 := Lib.hid (HF1.out.trans hf3); clear h3 hf3)); refine hK.out _ _ ?_ (fun hHeld => ?_); (· exact ⟨_, HA3.out⟩); clear hK K; (try simp only [Act.put, List.setIfInBounds_toArray, List.set_cons_zero, List.set_cons_succ])
  refine wpAnyH_done (by kernel_rfl) ?_ _
  obtain ⟨x0, x1, x2, x3, x4, x5⟩ := Wb.mcell (m := ⟨1, fam, qual, vk, vn, vs⟩) HA3.out
  simp only at x0 x1 x2 x3 x4 x5
  go_wp2_with (go_at_call 61; refine (c_wword fam HA3.out.ww (by simp; omega)).mono ?_)
  rintro e w4 ⟨rfl, h3, hf3⟩
  have HA4 := Lib.hid (HA3.out.next h3 hf3)
  have HF3 := Lib.hid (HF2.out.trans hf3)
  clear h3 hf3 x0 x1 x2 x3 x4 x5
  obtain ⟨x0, x1, x2, x3, x4, x5⟩ := Wb.mcell (m := ⟨1, fam, qual, vk, vn, vs⟩) HA4.out
  simp only at x0 x1 x2 x3 x4 x5
  go_wp2_with (go_at_call 98; refine (c_wtext qual hq HA4.out.ww (by simp; omega)).mono ?_)
  rintro e w5 ⟨rfl, h3, hf3⟩
  have HA5 := Lib.hid (HA4.out.next h3 hf3)
  have HF4 := Lib.hid (HF3.out.trans hf3)
  clear h3 hf3 x0 x1 x2 x3 x4 x5
  obtain ⟨x0, x1, x2, x3, x4, x5⟩ := Wb.mcell (m := ⟨1, fam, qual, vk, vn, vs⟩) HA5.out
  simp only at x0 x1 x2 x3 x4 x5
  go_wp2_with (go_at_call 100; refine (c_wvalue hg vk vn vs hn hv HA5.out.ww (by simp; omega)).mono ?_)
  rintro e w6 ⟨rfl, h3, hf3⟩
  have HA6 := Lib.hid (HA5.out.next h3 hf3)
  have HF5 := Lib.hid (HF4.out.trans hf3)
  clear h3 hf3 x0 x1 x2 x3 x4 x5
  obtain ⟨x0, x1, x2, x3, x4, x5⟩ := Wb.mcell (m := ⟨1, fam, qual, vk, vn, vs⟩) HA6.out
  simp only at x0 x1 x2 x3 x4 x5
  go_wp2
  go_end0
  exact ⟨rfl, by have := HA6.out.ww; (try simp only [List.append_assoc, List.cons_append, List.nil_append] at this); exact this, HF5.out⟩
set_option maxRecDepth 100000 in
set_option maxHeartbeats 4000000 in
theorem c_wmut2 {w0 : World} (hg : Gv w0) {p : Nat} {ws : List ByteArray} (m : MutE) (hm : m.kind = 2) (hq : m.qual.size ≤ 1000000) {w : World} (h : Ww w0 p ws w) (hlen : ws.length < 1099511620000) :
    Calls Tryz.prog 101 #[.pointer (some ⟨p, 0, none⟩), mv m] w fun e w' => e = .returned (.tuple #[]) ∧ Ww w0 p (ws ++ wMut m) w' ∧ Fr p w w' := by
  obtain ⟨k, fam, qual, vk, vn, vs⟩ := m
  simp only at hm hq
  subst hm
  have HA0 := Lib.hid (h.box (mcells ⟨2, fam, qual, vk, vn, vs⟩) 90)
  have HF0 := Lib.hid (Fr.below h.lt ((Below.refl w.heap.size w).alloc (Nat.le_refl _) (.cells (mcells ⟨2, fam, qual, vk, vn, vs⟩) 90)))
  rw [show wMut ⟨2, fam, qual, vk, vn, vs⟩ = [wColumn, fam, wText qual] from rfl]
  simp only [mv, mcells] at HA0 HF0 ⊢
  clear h
  have k3 : IntKind.i64.wrap 1 = 1 := by decide
  go_enter Tryz.func101, Tryz.ntmps101
  go_wp2_with fail
  have HA1 := Lib.hid HA0.out.drew
  have HFD := Lib.hid (HF0.out.trans (Fr.below HA0.out.ww.lt (Below.refl _ _).drew))
  refine wp_region_held_drew (S := fun X => ∃ u, Wb w0 p u w.heap.size (mcells ⟨2, fam, qual, vk, vn, vs⟩) 90 X) (by kernel_rfl) ⟨_, HA1.out⟩ (fun hHeld => ?_)
  refine tk 0 (v := ?v_201) ?y201 ?_; (case y201 => (refine Or.inl ⟨by rfl, ?_⟩; intro w hSw; obtain ⟨_, hW⟩ := hSw; obtain ⟨x0, x1, x2, x3, x4, x5⟩ := hW.mcell; simp only at x0 x1 x2 x3 x4 x5; have k3 : IntKind.i64.wrap 1 = 1 := (by decide); go_simp; first | done | with_reducible rfl)); (try simp only [Act.put, List.setIfInBounds_toArray, List.set_cons_zero, List.set_cons_succ])
  refine tk 2 (v := ?v_202) ?y202 ?_; (case y202 => (refine Or.inl ⟨by rfl, ?_⟩; intro w hSw; obtain ⟨_, hW⟩ := hSw; obtain ⟨x0, x1, x2, x3, x4, x5⟩ := hW.mcell; simp only at x0 x1 x2 x3 x4 x5; have k3 : IntKind.i64.wrap 1 = 1 := (by decide); go_simp; first | done | with_reducible rfl)); (try simp only [Act.put, List.setIfInBounds_toArray, List.set_cons_zero, List.set_cons_succ])
  refine tk 3 (v := ?v_203) ?y203 ?_; (case y203 => (refine Or.inl ⟨by rfl, ?_⟩; intro w hSw; obtain ⟨_, hW⟩ := hSw; obtain ⟨x0, x1, x2, x3, x4, x5⟩ := hW.mcell; simp only at x0 x1 x2 x3 x4 x5; have k3 : IntKind.i64.wrap 1 = 1 := (by decide); go_simp; first | done | with_reducible rfl)); (try simp only [Act.put, List.setIfInBounds_toArray, List.set_cons_zero, List.set_cons_succ])
  refine tk 4 (v := ?v_204) ?y204 ?_; (case y204 => (refine Or.inl ⟨by rfl, ?_⟩; intro w hSw; obtain ⟨_, hW⟩ := hSw; obtain ⟨x0, x1, x2, x3, x4, x5⟩ := hW.mcell; simp only at x0 x1 x2 x3 x4 x5; have k3 : IntKind.i64.wrap 1 = 1 := (by decide); go_simp; first | done | with_reducible rfl)); (try simp only [Act.put, List.setIfInBounds_toArray, List.set_cons_zero, List.set_cons_succ])
  refine wpAnyH_ready (rs := [1]) (by kernel_rfl) (by simp) ?_; refine AllReadyH.cons (o := ?o_205) ?hi_205 (fun K hK => ?_) AllReadyH.nil; (case hi_205 => (simp only [List.getElem?_toArray, List.getElem?_cons_zero, List.getElem?_cons_succ]; rfl)); go_simp; (go_at_call 132; ((refine (c_muts _).mono ?_); rintro e w2 ⟨rfl, hr2, hb2⟩; have HA2 := Lib.hid (HA1.out.keep hb2); have hr3 : w2.heap[w.heap.size + 1]? = some (.cells (strs mutN).toArray 9 (0, 0)) := (by simpa using hr2); have c3 : w2.cell? ⟨w.heap.size + 1, 1, none⟩ = some (.string wColumn) := (by simp [World.cell?, hr3, strs, mutN]); have HF1 := Lib.hid (HFD.out.trans (Fr.below HA1.out.ww.lt hb2)))); refine hK.out _ _ ?_ (fun hHeld => ?_); (· exact ⟨_, HA2.out⟩); clear hK K; (try simp only [Act.put, List.setIfInBounds_toArray, List.set_cons_zero, List.set_cons_succ])
  refine tk 5 (v := ?v_206) ?y206 ?_; (case y206 => (refine Or.inl ⟨by rfl, ?_⟩; intro w hSw; obtain ⟨_, hW⟩ := hSw; obtain ⟨x0, x1, x2, x3, x4, x5⟩ := hW.mcell; simp only at x0 x1 x2 x3 x4 x5; have k3 : IntKind.i64.wrap 1 = 1 := (by decide); go_simp; first | done | with_reducible rfl)); (try simp only [Act.put, List.setIfInBounds_toArray, List.set_cons_zero, List.set_cons_succ])
  refine wpAnyH_ready (rs := [6]) (by kernel_rfl) (by simp) ?_; refine AllReadyH.cons (o := ?o_207) ?hi_207 (fun K hK => ?_) AllReadyH.nil; (case hi_207 => (simp only [List.getElem?_toArray, List.getElem?_cons_zero, List.getElem?_cons_succ]; rfl)); go_simp; skip; refine hK.out _ _ ?_ (fun hHeld => ?_); (· exact ⟨_, HA2.out⟩); clear hK K; (try simp only [Act.put, List.setIfInBounds_toArray, List.set_cons_zero, List.set_cons_succ])
  refine wpAnyH_ready (rs := [7]) (by kernel_rfl) (by simp) ?_; refine AllReadyH.cons (o := ?o_208) ?hi_208 (fun K hK => ?_) AllReadyH.nil; (case hi_208 => (simp only [List.getElem?_toArray, List.getElem?_cons_zero, List.getElem?_cons_succ]; rfl)); go_simp; (go_at_call 61; ((refine (c_wword _ HA2.out.ww (by omega)).mono ?_); rintro e w3 ⟨rfl, h3, hf3⟩; have HA3 := Lib.hid (HA2.out.next h3 hf3); have HF2 := Lib.hid (HF1.out.trans hf3); clear h3 hf3)); refine hK.out _ _ ?_ (fun hHeld => ?_); (· exact ⟨_, HA3.out⟩); clear hK K; (try simp only [Act.put, List.setIfInBounds_toArray, List.set_cons_zero, List.set_cons_succ])
  refine wpAnyH_done (by kernel_rfl) ?_ _
  obtain ⟨x0, x1, x2, x3, x4, x5⟩ := Wb.mcell (m := ⟨2, fam, qual, vk, vn, vs⟩) HA3.out
  simp only at x0 x1 x2 x3 x4 x5
  go_wp2_with (go_at_call 61; refine (c_wword fam HA3.out.ww (by simp; omega)).mono ?_)
  rintro e w4 ⟨rfl, h3, hf3⟩
  have HA4 := Lib.hid (HA3.out.next h3 hf3)
  have HF3 := Lib.hid (HF2.out.trans hf3)
  clear h3 hf3 x0 x1 x2 x3 x4 x5
  obtain ⟨x0, x1, x2, x3, x4, x5⟩ := Wb.mcell (m := ⟨2, fam, qual, vk, vn, vs⟩) HA4.out
  simp only at x0 x1 x2 x3 x4 x5
  go_wp2_with (go_at_call 98; refine (c_wtext qual hq HA4.out.ww (by simp; omega)).mono ?_)
  rintro e w5 ⟨rfl, h3, hf3⟩
  have HA5 := Lib.hid (HA4.out.next h3 hf3)
  have HF4 := Lib.hid (HF3.out.trans hf3)
  clear h3 hf3 x0 x1 x2 x3 x4 x5
  obtain ⟨x0, x1, x2, x3, x4, x5⟩ := Wb.mcell (m := ⟨2, fam, qual, vk, vn, vs⟩) HA5.out
  simp only at x0 x1 x2 x3 x4 x5
  go_wp2
  go_end0
  exact ⟨rfl, by have := HA5.out.ww; (try simp only [List.append_assoc, List.cons_append, List.nil_append] at this); exact this, HF4.out⟩
set_option maxRecDepth 100000 in
set_option maxHeartbeats 4000000 in
theorem c_wmut3 {w0 : World} (hg : Gv w0) {p : Nat} {ws : List ByteArray} (m : MutE) (hm : m.kind = 3) {w : World} (h : Ww w0 p ws w) (hlen : ws.length < 1099511620000) :
    Calls Tryz.prog 101 #[.pointer (some ⟨p, 0, none⟩), mv m] w fun e w' => e = .returned (.tuple #[]) ∧ Ww w0 p (ws ++ wMut m) w' ∧ Fr p w w' := by
  obtain ⟨k, fam, qual, vk, vn, vs⟩ := m
  simp only at hm
  subst hm
  have HA0 := Lib.hid (h.box (mcells ⟨3, fam, qual, vk, vn, vs⟩) 90)
  have HF0 := Lib.hid (Fr.below h.lt ((Below.refl w.heap.size w).alloc (Nat.le_refl _) (.cells (mcells ⟨3, fam, qual, vk, vn, vs⟩) 90)))
  rw [show wMut ⟨3, fam, qual, vk, vn, vs⟩ = [wFamily, fam] from rfl]
  simp only [mv, mcells] at HA0 HF0 ⊢
  clear h
  have k3 : IntKind.i64.wrap 2 = 2 := by decide
  go_enter Tryz.func101, Tryz.ntmps101
  go_wp2_with fail
  have HA1 := Lib.hid HA0.out.drew
  have HFD := Lib.hid (HF0.out.trans (Fr.below HA0.out.ww.lt (Below.refl _ _).drew))
  refine wp_region_held_drew (S := fun X => ∃ u, Wb w0 p u w.heap.size (mcells ⟨3, fam, qual, vk, vn, vs⟩) 90 X) (by kernel_rfl) ⟨_, HA1.out⟩ (fun hHeld => ?_)
  refine tk 0 (v := ?v_301) ?y301 ?_; (case y301 => (refine Or.inl ⟨by rfl, ?_⟩; intro w hSw; obtain ⟨_, hW⟩ := hSw; obtain ⟨x0, x1, x2, x3, x4, x5⟩ := hW.mcell; simp only at x0 x1 x2 x3 x4 x5; have k3 : IntKind.i64.wrap 2 = 2 := (by decide); go_simp; first | done | with_reducible rfl)); (try simp only [Act.put, List.setIfInBounds_toArray, List.set_cons_zero, List.set_cons_succ])
  refine tk 2 (v := ?v_302) ?y302 ?_; (case y302 => (refine Or.inl ⟨by rfl, ?_⟩; intro w hSw; obtain ⟨_, hW⟩ := hSw; obtain ⟨x0, x1, x2, x3, x4, x5⟩ := hW.mcell; simp only at x0 x1 x2 x3 x4 x5; have k3 : IntKind.i64.wrap 2 = 2 := (by decide); go_simp; first | done | with_reducible rfl)); (try simp only [Act.put, List.setIfInBounds_toArray, List.set_cons_zero, List.set_cons_succ])
  refine tk 3 (v := ?v_303) ?y303 ?_; (case y303 => (refine Or.inl ⟨by rfl, ?_⟩; intro w hSw; obtain ⟨_, hW⟩ := hSw; obtain ⟨x0, x1, x2, x3, x4, x5⟩ := hW.mcell; simp only at x0 x1 x2 x3 x4 x5; have k3 : IntKind.i64.wrap 2 = 2 := (by decide); go_simp; first | done | with_reducible rfl)); (try simp only [Act.put, List.setIfInBounds_toArray, List.set_cons_zero, List.set_cons_succ])
  refine tk 4 (v := ?v_304) ?y304 ?_; (case y304 => (refine Or.inl ⟨by rfl, ?_⟩; intro w hSw; obtain ⟨_, hW⟩ := hSw; obtain ⟨x0, x1, x2, x3, x4, x5⟩ := hW.mcell; simp only at x0 x1 x2 x3 x4 x5; have k3 : IntKind.i64.wrap 2 = 2 := (by decide); go_simp; first | done | with_reducible rfl)); (try simp only [Act.put, List.setIfInBounds_toArray, List.set_cons_zero, List.set_cons_succ])
  refine wpAnyH_ready (rs := [1]) (by kernel_rfl) (by simp) ?_; refine AllReadyH.cons (o := ?o_305) ?hi_305 (fun K hK => ?_) AllReadyH.nil; (case hi_305 => (simp only [List.getElem?_toArray, List.getElem?_cons_zero, List.getElem?_cons_succ]; rfl)); go_simp; (go_at_call 132; ((refine (c_muts _).mono ?_); rintro e w2 ⟨rfl, hr2, hb2⟩; have HA2 := Lib.hid (HA1.out.keep hb2); have hr3 : w2.heap[w.heap.size + 1]? = some (.cells (strs mutN).toArray 9 (0, 0)) := (by simpa using hr2); have c3 : w2.cell? ⟨w.heap.size + 1, 2, none⟩ = some (.string wFamily) := (by simp [World.cell?, hr3, strs, mutN]); have HF1 := Lib.hid (HFD.out.trans (Fr.below HA1.out.ww.lt hb2)))); refine hK.out _ _ ?_ (fun hHeld => ?_); (· exact ⟨_, HA2.out⟩); clear hK K; (try simp only [Act.put, List.setIfInBounds_toArray, List.set_cons_zero, List.set_cons_succ])
  refine tk 5 (v := ?v_306) ?y306 ?_; (case y306 => (refine Or.inl ⟨by rfl, ?_⟩; intro w hSw; obtain ⟨_, hW⟩ := hSw; obtain ⟨x0, x1, x2, x3, x4, x5⟩ := hW.mcell; simp only at x0 x1 x2 x3 x4 x5; have k3 : IntKind.i64.wrap 2 = 2 := (by decide); go_simp; first | done | with_reducible rfl)); (try simp only [Act.put, List.setIfInBounds_toArray, List.set_cons_zero, List.set_cons_succ])
  refine wpAnyH_ready (rs := [6]) (by kernel_rfl) (by simp) ?_; refine AllReadyH.cons (o := ?o_307) ?hi_307 (fun K hK => ?_) AllReadyH.nil; (case hi_307 => (simp only [List.getElem?_toArray, List.getElem?_cons_zero, List.getElem?_cons_succ]; rfl)); go_simp; skip; refine hK.out _ _ ?_ (fun hHeld => ?_); (· exact ⟨_, HA2.out⟩); clear hK K; (try simp only [Act.put, List.setIfInBounds_toArray, List.set_cons_zero, List.set_cons_succ])
  refine wpAnyH_ready (rs := [7]) (by kernel_rfl) (by simp) ?_; refine AllReadyH.cons (o := ?o_308) ?hi_308 (fun K hK => ?_) AllReadyH.nil; (case hi_308 => (simp only [List.getElem?_toArray, List.getElem?_cons_zero, List.getElem?_cons_succ]; rfl)); go_simp; (go_at_call 61; ((refine (c_wword _ HA2.out.ww (by omega)).mono ?_); rintro e w3 ⟨rfl, h3, hf3⟩; have HA3 := Lib.hid (HA2.out.next h3 hf3); have HF2 := Lib.hid (HF1.out.trans hf3); clear h3 hf3)); refine hK.out _ _ ?_ (fun hHeld => ?_); (· exact ⟨_, HA3.out⟩); clear hK K; (try simp only [Act.put, List.setIfInBounds_toArray, List.set_cons_zero, List.set_cons_succ])
  refine wpAnyH_done (by kernel_rfl) ?_ _
  obtain ⟨x0, x1, x2, x3, x4, x5⟩ := Wb.mcell (m := ⟨3, fam, qual, vk, vn, vs⟩) HA3.out
  simp only at x0 x1 x2 x3 x4 x5
  go_wp2_with (go_at_call 61; refine (c_wword fam HA3.out.ww (by simp; omega)).mono ?_)
  rintro e w4 ⟨rfl, h3, hf3⟩
  have HA4 := Lib.hid (HA3.out.next h3 hf3)
  have HF3 := Lib.hid (HF2.out.trans hf3)
  clear h3 hf3 x0 x1 x2 x3 x4 x5
  obtain ⟨x0, x1, x2, x3, x4, x5⟩ := Wb.mcell (m := ⟨3, fam, qual, vk, vn, vs⟩) HA4.out
  simp only at x0 x1 x2 x3 x4 x5
  go_wp2
  go_end0
  exact ⟨rfl, by have := HA4.out.ww; (try simp only [List.append_assoc, List.cons_append, List.nil_append] at this); exact this, HF3.out⟩
set_option maxRecDepth 100000 in
set_option maxHeartbeats 4000000 in
theorem c_wmut4 {w0 : World} (hg : Gv w0) {p : Nat} {ws : List ByteArray} (m : MutE) (hm : m.kind = 4) {w : World} (h : Ww w0 p ws w) (hlen : ws.length < 1099511620000) :
    Calls Tryz.prog 101 #[.pointer (some ⟨p, 0, none⟩), mv m] w fun e w' => e = .returned (.tuple #[]) ∧ Ww w0 p (ws ++ wMut m) w' ∧ Fr p w w' := by
  obtain ⟨k, fam, qual, vk, vn, vs⟩ := m
  simp only at hm
  subst hm
  have HA0 := Lib.hid (h.box (mcells ⟨4, fam, qual, vk, vn, vs⟩) 90)
  have HF0 := Lib.hid (Fr.below h.lt ((Below.refl w.heap.size w).alloc (Nat.le_refl _) (.cells (mcells ⟨4, fam, qual, vk, vn, vs⟩) 90)))
  rw [show wMut ⟨4, fam, qual, vk, vn, vs⟩ = [wRow] from rfl]
  simp only [mv, mcells] at HA0 HF0 ⊢
  clear h
  have k3 : IntKind.i64.wrap 3 = 3 := by decide
  go_enter Tryz.func101, Tryz.ntmps101
  go_wp2_with fail
  have HA1 := Lib.hid HA0.out.drew
  have HFD := Lib.hid (HF0.out.trans (Fr.below HA0.out.ww.lt (Below.refl _ _).drew))
  refine wp_region_held_drew (S := fun X => ∃ u, Wb w0 p u w.heap.size (mcells ⟨4, fam, qual, vk, vn, vs⟩) 90 X) (by kernel_rfl) ⟨_, HA1.out⟩ (fun hHeld => ?_)
  refine tk 0 (v := ?v_401) ?y401 ?_; (case y401 => (refine Or.inl ⟨by rfl, ?_⟩; intro w hSw; obtain ⟨_, hW⟩ := hSw; obtain ⟨x0, x1, x2, x3, x4, x5⟩ := hW.mcell; simp only at x0 x1 x2 x3 x4 x5; have k3 : IntKind.i64.wrap 3 = 3 := (by decide); go_simp; first | done | with_reducible rfl)); (try simp only [Act.put, List.setIfInBounds_toArray, List.set_cons_zero, List.set_cons_succ])
  refine tk 2 (v := ?v_402) ?y402 ?_; (case y402 => (refine Or.inl ⟨by rfl, ?_⟩; intro w hSw; obtain ⟨_, hW⟩ := hSw; obtain ⟨x0, x1, x2, x3, x4, x5⟩ := hW.mcell; simp only at x0 x1 x2 x3 x4 x5; have k3 : IntKind.i64.wrap 3 = 3 := (by decide); go_simp; first | done | with_reducible rfl)); (try simp only [Act.put, List.setIfInBounds_toArray, List.set_cons_zero, List.set_cons_succ])
  refine tk 3 (v := ?v_403) ?y403 ?_; (case y403 => (refine Or.inl ⟨by rfl, ?_⟩; intro w hSw; obtain ⟨_, hW⟩ := hSw; obtain ⟨x0, x1, x2, x3, x4, x5⟩ := hW.mcell; simp only at x0 x1 x2 x3 x4 x5; have k3 : IntKind.i64.wrap 3 = 3 := (by decide); go_simp; first | done | with_reducible rfl)); (try simp only [Act.put, List.setIfInBounds_toArray, List.set_cons_zero, List.set_cons_succ])
  refine tk 4 (v := ?v_404) ?y404 ?_; (case y404 => (refine Or.inl ⟨by rfl, ?_⟩; intro w hSw; obtain ⟨_, hW⟩ := hSw; obtain ⟨x0, x1, x2, x3, x4, x5⟩ := hW.mcell; simp only at x0 x1 x2 x3 x4 x5; have k3 : IntKind.i64.wrap 3 = 3 := (by decide); go_simp; first | done | with_reducible rfl)); (try simp only [Act.put, List.setIfInBounds_toArray, List.set_cons_zero, List.set_cons_succ])
  refine wpAnyH_ready (rs := [1]) (by kernel_rfl) (by simp) ?_; refine AllReadyH.cons (o := ?o_405) ?hi_405 (fun K hK => ?_) AllReadyH.nil; (case hi_405 => (simp only [List.getElem?_toArray, List.getElem?_cons_zero, List.getElem?_cons_succ]; rfl)); go_simp; (go_at_call 132; ((refine (c_muts _).mono ?_); rintro e w2 ⟨rfl, hr2, hb2⟩; have HA2 := Lib.hid (HA1.out.keep hb2); have hr3 : w2.heap[w.heap.size + 1]? = some (.cells (strs mutN).toArray 9 (0, 0)) := (by simpa using hr2); have c3 : w2.cell? ⟨w.heap.size + 1, 3, none⟩ = some (.string wRow) := (by simp [World.cell?, hr3, strs, mutN]); have HF1 := Lib.hid (HFD.out.trans (Fr.below HA1.out.ww.lt hb2)))); refine hK.out _ _ ?_ (fun hHeld => ?_); (· exact ⟨_, HA2.out⟩); clear hK K; (try simp only [Act.put, List.setIfInBounds_toArray, List.set_cons_zero, List.set_cons_succ])
  refine tk 5 (v := ?v_406) ?y406 ?_; (case y406 => (refine Or.inl ⟨by rfl, ?_⟩; intro w hSw; obtain ⟨_, hW⟩ := hSw; obtain ⟨x0, x1, x2, x3, x4, x5⟩ := hW.mcell; simp only at x0 x1 x2 x3 x4 x5; have k3 : IntKind.i64.wrap 3 = 3 := (by decide); go_simp; first | done | with_reducible rfl)); (try simp only [Act.put, List.setIfInBounds_toArray, List.set_cons_zero, List.set_cons_succ])
  refine wpAnyH_ready (rs := [6]) (by kernel_rfl) (by simp) ?_; refine AllReadyH.cons (o := ?o_407) ?hi_407 (fun K hK => ?_) AllReadyH.nil; (case hi_407 => (simp only [List.getElem?_toArray, List.getElem?_cons_zero, List.getElem?_cons_succ]; rfl)); go_simp; skip; refine hK.out _ _ ?_ (fun hHeld => ?_); (· exact ⟨_, HA2.out⟩); clear hK K; (try simp only [Act.put, List.setIfInBounds_toArray, List.set_cons_zero, List.set_cons_succ])
  refine wpAnyH_ready (rs := [7]) (by kernel_rfl) (by simp) ?_; refine AllReadyH.cons (o := ?o_408) ?hi_408 (fun K hK => ?_) AllReadyH.nil; (case hi_408 => (simp only [List.getElem?_toArray, List.getElem?_cons_zero, List.getElem?_cons_succ]; rfl)); go_simp; (go_at_call 61; ((refine (c_wword _ HA2.out.ww (by omega)).mono ?_); rintro e w3 ⟨rfl, h3, hf3⟩; have HA3 := Lib.hid (HA2.out.next h3 hf3); have HF2 := Lib.hid (HF1.out.trans hf3); clear h3 hf3)); refine hK.out _ _ ?_ (fun hHeld => ?_); (· exact ⟨_, HA3.out⟩); clear hK K; (try simp only [Act.put, List.setIfInBounds_toArray, List.set_cons_zero, List.set_cons_succ])
  refine wpAnyH_done (by kernel_rfl) ?_ _
  obtain ⟨x0, x1, x2, x3, x4, x5⟩ := Wb.mcell (m := ⟨4, fam, qual, vk, vn, vs⟩) HA3.out
  simp only at x0 x1 x2 x3 x4 x5
  go_wp2
  go_end0
  exact ⟨rfl, by have := HA3.out.ww; (try simp only [List.append_assoc, List.cons_append, List.nil_append] at this); exact this, HF2.out⟩
theorem c_wmut {w0 : World} (hg : Gv w0) {p : Nat} {ws : List ByteArray} (m : MutE) (hm : mutOk m = true) (hn : Wf m.vn) {w : World} (h : Ww w0 p ws w) (hlen : ws.length < 1099511620000) :
    Calls Tryz.prog 101 #[.pointer (some ⟨p, 0, none⟩), mv m] w fun e w' => e = .returned (.tuple #[]) ∧ Ww w0 p (ws ++ wMut m) w' ∧ Fr p w w' := by
  rcases mutKinds hm with ⟨h1, hv⟩ | h1 | h1 | h1
  · refine c_wmut1 hg m h1 ?_ hn (Or.inr hv) h hlen
    unfold mutOk at hm
    rw [if_pos h1] at hm
    simp only [Bool.and_eq_true, decide_eq_true_eq] at hm
    omega
  · refine c_wmut2 hg m h1 ?_ h hlen
    unfold mutOk at hm
    rw [if_neg (by omega), if_pos h1] at hm
    simp only [Bool.and_eq_true, decide_eq_true_eq] at hm
    omega
  · exact c_wmut3 hg m h1 h hlen
  · exact c_wmut4 hg m h1 h hlen
end Go.Proofs.YtkogcobcjoojnaaGreatDoor.Fl
