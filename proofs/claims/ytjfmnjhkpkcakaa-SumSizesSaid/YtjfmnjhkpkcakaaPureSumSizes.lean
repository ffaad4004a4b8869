/- A frame holds its bytes, behind one byte or two that tell how many they are, and four bytes behind them; it tells them again. -/
import Derived.Test.YtjfmnjhkpkcakaaQx17
import Derived.Test.YtjfmnjhkpkcakaaPureB
namespace Go.Proofs.Ytjfmnjhkpkcakaa.Pure
open Go.RowKit Go.Proofs.Ytjfmnjhkpkcakaa.Q Go.Proofs.YtjfmnjhkpkcakaaW.PrintWords Go.Proofs.YtjfmnjhkpkcakaaW.PrintLast

theorem SumSizes : joistlaw04_SumSizes.Pure := by
  intro l hm hs hw
  have hb := byt_of_wf hw
  refine Ev.rounds ?_
  by_cases h3 : (l.length : Int) > 3000
  · refine Ev.congr (fun k => ?_) (Ev.now _)
    unfold joistlaw04_SumSizes.f joistlaw04_alive.f
    simp only [Option.bind_some, if_true]
    rw [if_pos h3]
  · have hF := frame_length l
    obtain ⟨nl, hnl, hnl1⟩ : ∃ nl : Nat, (numOf (l.length : Int)).length = nl ∧ ((nl = 1 ∧ l.length < 128) ∨ (nl = 2 ∧ ¬ l.length < 128)) := by
      refine ⟨_, rfl, ?_⟩
      unfold numOf
      by_cases h : (l.length : Int) < 128
      · rw [if_pos h]; exact .inl ⟨rfl, by omega⟩
      · rw [if_neg h]; exact .inr ⟨rfl, by omega⟩
    have e1 : wrap64 ((wrap64 (((frameOf l).length : Int) - (l.length : Int))) - 4) = (nl : Int) := by
      rw [w64 (x := ((frameOf l).length : Int) - (l.length : Int)) (by omega) (by omega), w64 (by omega) (by omega)]
      omega
    have e2 : wrap64 ((nl : Int) + (l.length : Int)) = ((nl + l.length : Nat) : Int) := by rw [w64 (by omega) (by omega)]; rfl
    have e3 : (((nl : Int) == 1) != (decide ((l.length : Int) < 128))) = false := by
      rcases hnl1 with ⟨h, h'⟩ | ⟨h, h'⟩
      · subst h; rw [decide_eq_true (by omega)]; rfl
      · subst h; rw [decide_eq_false (by omega)]; rfl
    have e4 : ((frameOf l).take (nl + l.length)).drop nl = l := by
      unfold frameOf
      rw [← hnl, ← List.append_assoc, List.take_append_of_le_length (by simp), List.take_of_length_le (by simp), List.drop_left]
    refine Ev.congr (f := fun k => (sum_Frame.f k l).bind fun bt181 => (if bt181.2 = true then (if (wrap64 ((wrap64 ((bt181.1.length : Int) - (l.length : Int))) - 4)) < 1 then (joistlaw04_SumSizes.j0 k l bt181.1 (wrap64 ((wrap64 ((bt181.1.length : Int) - (l.length : Int))) - 4)) true) else (if (wrap64 ((wrap64 ((bt181.1.length : Int) - (l.length : Int))) - 4)) > 2 then (joistlaw04_SumSizes.j0 k l bt181.1 (wrap64 ((wrap64 ((bt181.1.length : Int) - (l.length : Int))) - 4)) true) else (joistlaw04_SumSizes.j0 k l bt181.1 (wrap64 ((wrap64 ((bt181.1.length : Int) - (l.length : Int))) - 4)) (((wrap64 ((wrap64 ((bt181.1.length : Int) - (l.length : Int))) - 4)) == 1) != (decide ((l.length : Int) < 128)))))) else (joistlaw04_SumSizes.j0 k l bt181.1 (wrap64 ((wrap64 ((bt181.1.length : Int) - (l.length : Int))) - 4)) true))) (fun k => ?_) (Ev.bind (ev_frame hb (by omega)) ?_)
    · unfold joistlaw04_SumSizes.f joistlaw04_alive.f
      simp only [Option.bind_some, if_true]
      rw [if_neg h3]
    · refine Ev.congr (f := fun k => joistlaw04_SumSizes.j0 k l (frameOf l) (nl : Int) false) (fun k => ?_) ?_
      · simp only [e1, e3, if_true]
        rw [if_neg (by omega), if_neg (by omega)]
      · refine Ev.step (f := fun k => (sum_Next.f k (frameOf l)).bind fun bt185 => ((joistref00_SameBytes.f k l l).bind fun t196 => (if t196 = true then ((joistref00_SameBytes.f k bt185.1 l).bind fun t197 => (if t197 = true then (if (bt185.2.1.length : Int) = 0 then (some (bt185.2.2 == 0)) else (some false)) else (some false))) else (some false)))) (fun k => ?_) ?_
        · simp only [joistlaw04_SumSizes.j0]
          have b0 : (0 : Int) ≤ (nl : Int) := by omega
          have b1 : (nl : Int) ≤ ((nl + l.length : Nat) : Int) := by omega
          have b2 : ((nl + l.length : Nat) : Int) ≤ ((frameOf l).length : Int) := by omega
          rw [if_neg (by decide)]
          simp only [e2, if_pos b0, if_pos b1, if_pos b2, Int.toNat_natCast, e4]
        · have hnx := next_frame (l := l) (by omega) []
          rw [List.append_nil] at hnx
          have hen := ev_next (byt_frame hb (by omega)) (by omega)
          rw [hnx] at hen
          refine Ev.bind hen (Ev.bind (ev_same l l (by omega)) ?_)
          simp only [decide_true, if_true]
          refine Ev.bind (ev_same l l (by omega)) ?_
          simp only [decide_true, if_true]
          exact Ev.now _

end Go.Proofs.Ytjfmnjhkpkcakaa.Pure
