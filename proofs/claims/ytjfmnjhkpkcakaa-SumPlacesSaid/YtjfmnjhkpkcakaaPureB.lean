/- A frame, whatever follows it, is told by sum.Next; SameBytes is equality; on bytes alone. -/
import Derived.Test.YtjfmnjhkpkcakaaPureA3
namespace Go.Proofs.Ytjfmnjhkpkcakaa.Pure
open Go.RowKit Go.Proofs.Ytjfmnjhkpkcakaa.Q Go.Proofs.YtjfmnjhkpkcakaaW.PrintWords Go.Proofs.YtjfmnjhkpkcakaaW.PrintLast Go.Proofs.YtjfmnjhkpkcakaaW.PrintMore

theorem byt_of_wf {l : List Int} (h : ∀ x ∈ l, (Lit.int .u8 x).wf = true) : Byt l := fun x hx => by
  have := h x hx
  simp [Lit.wf, IntKind.min, IntKind.max, IntKind.signed, IntKind.bits] at this
  omega
theorem anyLow_append (a b : List Int) : anyLow (a ++ b) = (anyLow a || anyLow b) := by unfold anyLow; exact List.any_append
theorem anyLow_num {n : Int} (h0 : 0 ≤ n) (h1 : n < 16384) : anyLow (numOf n) = true := by
  unfold numOf anyLow
  split
  · rename_i h; simp [h]
  · simp; omega
theorem endOf_length (s : Int) : (endOf s).length = 4 := rfl
/-- A number's bytes, a count of bytes, then four that fit, or don't. -/
theorem next_num {n : Nat} (h1 : n < 16384) (s : List Int) (hs : n + 4 ≤ s.length) :
    nextOf (numOf n ++ s) = if endOf (sumOf (s.take n)) ≠ (s.take (n + 4)).drop n then ([], [], 2) else (s.take n, s.drop (n + 4), 0) := by
  unfold nextOf
  rw [if_neg (by rw [anyLow_append, anyLow_num (by omega) (by omega)]; simp), take_num (by omega) (by omega)]
  simp only [Bool.true_eq_false, false_or, Int.toNat_natCast]
  rw [if_neg (by omega), if_neg (by omega)]
theorem next_frame {l : List Int} (hn : l.length ≤ 4000) (r : List Int) : nextOf (frameOf l ++ r) = (l, r, 0) := by
  unfold frameOf
  rw [List.append_assoc, next_num (by omega) _ (by simp [endOf_length])]
  have e1 : (l ++ endOf (sumOf l) ++ r).take l.length = l := by rw [List.append_assoc, List.take_left]
  have e2 : ((l ++ endOf (sumOf l) ++ r).take (l.length + 4)).drop l.length = endOf (sumOf l) := by
    rw [List.take_append_of_le_length (by simp [endOf_length]), List.take_of_length_le (by simp [endOf_length]), List.drop_left]
  have e3 : (l ++ endOf (sumOf l) ++ r).drop (l.length + 4) = r := by
    rw [← List.drop_drop, List.append_assoc, List.drop_left]
    exact List.drop_left' rfl
  rw [e1, e2, e3, if_neg (by simp)]
theorem frame_length (l : List Int) : (frameOf l).length = (numOf l.length).length + l.length + 4 := by
  simp [frameOf, endOf_length]; omega
theorem same_l0 (a b : List Int) (hn : a.length ≤ 140737488355328) (hl : a.length = b.length) : ∀ (d i : Nat), i + d = a.length →
    Ev (fun k => joistref00_SameBytes.l0 k a b (i : Int)) (decide (a.drop i = b.drop i)) := by
  intro d
  induction d with
  | zero =>
    intro i hi
    rw [List.drop_eq_nil_of_le (by omega), List.drop_eq_nil_of_le (by omega)]
    refine Ev.step (f := fun _ => some true) (fun k => ?_) (Ev.now _)
    simp only [joistref00_SameBytes.l0]
    rw [if_neg (by omega)]
  | succ d ih =>
    intro i hi
    rw [drop_rd a i (by omega), drop_rd b i (by omega)]
    by_cases h : rd a (i : Int) = rd b (i : Int)
    · rw [show decide (rd a (i : Int) :: a.drop (i + 1) = rd b (i : Int) :: b.drop (i + 1)) = decide (a.drop (i + 1) = b.drop (i + 1)) by simp [h]]
      refine Ev.step (f := fun k => joistref00_SameBytes.l0 k a b ((i + 1 : Nat) : Int)) (fun k => ?_) (ih (i + 1) (by omega))
      simp only [joistref00_SameBytes.l0]
      rw [if_pos (by omega), if_pos (by omega), if_pos (by omega), if_pos h, w64 (by omega) (by omega)]
      rfl
    · rw [decide_eq_false (by simp [h])]
      refine Ev.step (f := fun _ => some false) (fun k => ?_) (Ev.now _)
      simp only [joistref00_SameBytes.l0]
      rw [if_pos (by omega), if_pos (by omega), if_pos (by omega), if_neg h]
theorem ev_same (a b : List Int) (hn : a.length ≤ 140737488355328) : Ev (fun k => joistref00_SameBytes.f k a b) (decide (a = b)) := by
  by_cases hl : a.length = b.length
  · have := same_l0 a b hn hl a.length 0 (by omega)
    rw [List.drop_zero, List.drop_zero] at this
    exact Ev.congr (fun k => by unfold joistref00_SameBytes.f; rw [if_pos (by omega)]; rfl) this
  · rw [decide_eq_false (fun h => hl (by rw [h]))]
    exact Ev.congr (fun k => by unfold joistref00_SameBytes.f; rw [if_neg (by omega)]) (Ev.now _)
end Go.Proofs.Ytjfmnjhkpkcakaa.Pure
