/- Every Sum, Frame, Next and All of bytes answers what the reference's do; the bytes stay as they were. -/
import Derived.Test.YtjfmnjhkpkcakaaQx29
import Derived.Test.YtjfmnjhkpkcakaaPureD
namespace Go.Proofs.Ytjfmnjhkpkcakaa.Pure
open Go.RowKit Go.Proofs.Ytjfmnjhkpkcakaa.Q Go.Proofs.YtjfmnjhkpkcakaaW.PrintWords Go.Proofs.YtjfmnjhkpkcakaaW.PrintLast Go.Proofs.YtjfmnjhkpkcakaaW.PrintMore

theorem SumAnswers : joistlaw04_SumAnswers.Pure := by
  intro l hm hs hw
  have hb := byt_of_wf hw
  refine Ev.rounds ?_
  by_cases h4 : (l.length : Int) > 4000
  · refine Ev.congr (f := fun k => joistlaw04_SumAnswers.j0 k l (decide ((l.length : Int) ≤ 65536))) (fun k => ?_) ?_
    · unfold joistlaw04_SumAnswers.f joistlaw04_alive.f
      simp only [Option.bind_some, if_true]
      rw [if_pos h4]
    · by_cases h6 : (l.length : Int) ≤ 65536
      · rw [decide_eq_true h6]
        refine Ev.step (f := fun _ => some true) (fun k => ?_) (Ev.now _)
        simp only [joistlaw04_SumAnswers.j0]
        rw [if_pos trivial]
      · rw [decide_eq_false h6]
        refine Ev.step (f := fun _ => some true) (fun k => ?_) (Ev.now _)
        simp only [joistlaw04_SumAnswers.j0]
        rw [if_neg (by decide)]
        unfold sum_Frame.f
        rw [if_pos (by omega)]
        simp only [Option.bind_some]
        rw [if_pos (by omega), if_neg (by decide)]
        rfl
  · refine Ev.congr (f := fun k => joistlaw04_SumAnswers.j0 k l false) (fun k => ?_) ?_
    · unfold joistlaw04_SumAnswers.f joistlaw04_alive.f
      simp only [Option.bind_some, if_true]
      rw [if_neg h4]
    · have hn : l.length ≤ 4000 := by omega
      have hfl : (frameOf l).length ≤ 4006 := by
        have hl : (numOf (l.length : Int)).length ≤ 2 := by unfold numOf; split <;> simp
        rw [frame_length]; omega
      obtain ⟨hz1, hz2⟩ := allGo_sizes l.length [] l 4000 hb hn (by simp)
      obtain ⟨_, _, _, hx⟩ := next_spec hb
      have hy : (nextOf l).2.1.length ≤ 140737488355328 := by
        by_cases h0 : (nextOf l).2.2 = 0
        · have := (next_spec hb).2.2.1 h0; omega
        · have : (nextOf l).2.1 = [] := by
            unfold nextOf at h0 ⊢
            split
            · rfl
            · split
              · rfl
              · split
                · rfl
                · split
                  · rfl
                  · rename_i a b c d; rw [if_neg a, if_neg b, if_neg c, if_neg d] at h0; exact absurd rfl h0
          rw [this]; simp
      have hc : joistref00_CopyBytes.f l = some l := copy_some (by omega)
      refine Ev.step (f := fun k => (sum_Frame.f k l).bind fun bt302 => ((joistref04_Frame.f k l).bind fun bt309 => ((sum_Next.f k l).bind fun bt313 => ((joistref04_Next.f k l).bind fun bt320 => ((sum_All.f k l).bind fun bt327 => ((joistref04_All.f k l).bind fun bt332 => ((sum_Sum.f k l).bind fun t337 => ((joistref04_Sum.f k l).bind fun t338 => (if t337 = t338 then ((joistref00_SameBytes.f k bt302.1 bt309.1).bind fun t339 => (if t339 = true then (if (bt302.2 == bt309.2) = true then ((joistref00_SameBytes.f k bt313.1 bt320.1).bind fun t340 => (if t340 = true then ((joistref00_SameBytes.f k bt313.2.1 bt320.2.1).bind fun t341 => (if t341 = true then (if bt313.2.2 = bt320.2.2 then ((joistref00_SameLists.f k bt327.1 bt332.1).bind fun t342 => (if t342 = true then (if bt327.2.1 = bt332.2.1 then (if bt327.2.2 = bt332.2.2 then ((joistref00_SameBytes.f k l l).bind fun t343 => (some t343)) else (some false)) else (some false)) else (some false))) else (some false)) else (some false))) else (some false))) else (some false)) else (some false))) else (some false)))))))))) (fun k => ?_) ?_
      · simp only [joistlaw04_SumAnswers.j0]
        have h65 : ¬ (l.length : Int) > 65536 := by omega
        rw [if_neg (by decide)]
        simp only [if_neg h65, hc, Option.bind_some]
      · refine Ev.bind (ev_frame hb hn) (Ev.bind (ev_refframe hb hn) (Ev.bind (ev_next hb (by omega)) (Ev.bind (ev_refnext hb (by omega)) (Ev.bind (ev_all hb (by omega)) (Ev.bind (ev_refall hb (by omega)) (Ev.bind (ev_sum hb (by omega)) (Ev.bind (ev_refsum hb (by omega)) ?_)))))))
        simp only [if_true]
        refine Ev.bind (ev_same _ _ (by omega)) ?_
        simp only [decide_true, if_true, beq_self_eq_true]
        refine Ev.bind (ev_same _ _ (by omega)) ?_
        simp only [decide_true, if_true]
        refine Ev.bind (ev_same _ _ hy) ?_
        simp only [decide_true, if_true]
        refine Ev.bind (ev_lists _ _ ?_ ?_) ?_
        · unfold allOf; simp at hz2; simp only; omega
        · intro x hx; have := hz1 x hx; omega
        · simp only [decide_true, if_true]
          refine Ev.bind (ev_same _ _ (by omega)) ?_
          simp only [decide_true]
          exact Ev.now _

end Go.Proofs.Ytjfmnjhkpkcakaa.Pure
