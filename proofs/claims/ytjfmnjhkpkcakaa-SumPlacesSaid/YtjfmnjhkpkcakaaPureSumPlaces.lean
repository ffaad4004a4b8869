/- What stands behind frames is told there as at the beginning. -/
import Derived.Test.YtjfmnjhkpkcakaaQx32
import Derived.Test.YtjfmnjhkpkcakaaPureE
namespace Go.Proofs.Ytjfmnjhkpkcakaa.Pure
open Go.RowKit Go.Proofs.Ytjfmnjhkpkcakaa.Q Go.Proofs.YtjfmnjhkpkcakaaW.PrintWords Go.Proofs.YtjfmnjhkpkcakaaW.PrintLast Go.Proofs.YtjfmnjhkpkcakaaW.PrintMore

theorem all_frames {l : List (List Int)} (hb : ∀ x ∈ l, Byt x ∧ x.length ≤ 4000) {r : List Int} (hr : Byt r) : allOf (framesOf l ++ r) = (l ++ (allOf r).1, ((framesOf l).length : Int) + (allOf r).2.1, (allOf r).2.2) := by
  unfold allOf
  rw [allGo_frames l _ [] r hb hr (Nat.le_refl _), List.nil_append, allGo_acc]
  simp only [List.length_append, Prod.mk.injEq, true_and, and_true]
  omega
theorem places_l0 {l : List (List Int)} (hb : ∀ x ∈ l, Byt x ∧ x.length ≤ 3000) (hn : l.length ≤ 3000) (hw : (framesOf l).length ≤ 30000) {r : List Int} (hr : Byt r) (hrl : r.length ≤ 2000) : ∀ (d i : Nat), i + d = l.length →
    Ev (fun n => joistlaw04_SumPlaces.l0 n l r (framesOf (l.take i)) (i : Int)) true := by
  intro d
  have hb4 : ∀ x ∈ l, Byt x ∧ x.length ≤ 4000 := fun x hx => ⟨(hb x hx).1, by have := (hb x hx).2; omega⟩
  induction d with
  | zero =>
    intro i hi
    rw [List.take_of_length_le (by omega)]
    obtain ⟨hz1, hz2⟩ := allGo_sizes r.length [] r 2000 hr hrl (by simp)
    have hz3 := allGo_len r.length [] r hr
    have hs : (framesOf l).length + r.length < 140737488355328 := by omega
    have hlen : (framesOf l ++ r).length < 5864062014805 := by rw [List.length_append]; omega
    have hev := ev_all (l := framesOf l ++ r) (byt_append (byt_frames hb4) hr) hlen
    rw [all_frames hb4 hr] at hev
    refine Ev.step (f := fun n => (sum_All.f n (framesOf l ++ r)).bind fun bt404 => ((sum_All.f n r).bind fun bt409 => (if (bt404.1.length : Int) = (wrap64 ((l.length : Int) + (bt409.1.length : Int))) then (if bt404.2.1 = (wrap64 (((framesOf l).length : Int) + bt409.2.1)) then (some (bt404.2.2 == bt409.2.2)) else (some false)) else (some false)))) (fun n => ?_) (Ev.bind hev (Ev.bind (ev_all hr (by omega)) ?_))
    · simp only [joistlaw04_SumPlaces.l0]
      rw [if_neg (by omega), if_pos hs]
    · have hl1 : (allOf r).1.length ≤ 2000 := by unfold allOf; simp at hz2; simp only; omega
      have hl2 : 0 ≤ (allOf r).2.1 ∧ (allOf r).2.1 ≤ 2000 := by unfold allOf; simp only; omega
      generalize allOf r = T at *
      have e1 : ((l ++ T.1).length : Int) = wrap64 ((l.length : Int) + (T.1.length : Int)) := by rw [w64 (by omega) (by omega), List.length_append]; rfl
      have e2 : ((framesOf l).length : Int) + T.2.1 = wrap64 (((framesOf l).length : Int) + T.2.1) := by rw [w64 (by omega) (by omega)]
      refine Ev.congr (fun n => ?_) (Ev.now _)
      rw [if_pos e1, if_pos e2]
      simp
  | succ d ih =>
    intro i hi
    have hlt : i < l.length := by omega
    have hx : Byt (rd_L1 l (i : Int)) ∧ (rd_L1 l (i : Int)).length ≤ 3000 := by rw [rdL_nat l i hlt]; exact hb _ (List.getElem_mem _)
    have hsn : l.take (i + 1) = l.take i ++ [rd_L1 l (i : Int)] := by rw [rdL_nat l i hlt]; exact List.take_succ_eq_append_getElem hlt
    have hfs : framesOf (l.take i) ++ frameOf (rd_L1 l (i : Int)) = framesOf (l.take (i + 1)) := by rw [hsn, framesOf_snoc]
    have hle : (framesOf (l.take (i + 1))).length ≤ (framesOf l).length := by
      conv => rhs; rw [← List.take_append_drop (i + 1) l]
      rw [framesOf_append, List.length_append]; omega
    have hsz : (framesOf (l.take i)).length + (frameOf (rd_L1 l (i : Int))).length < 140737488355328 := by
      rw [← List.length_append, hfs]; omega
    have hw1 : wrap64 ((i : Int) + 1) = ((i + 1 : Nat) : Int) := by rw [w64 (by omega) (by omega)]; rfl
    refine Ev.step (f := fun n => (sum_Frame.f n (rd_L1 l (i : Int))).bind fun bt394 => (if (framesOf (l.take i)).length + bt394.1.length < 140737488355328 then (joistlaw04_SumPlaces.l0 n l r (framesOf (l.take i) ++ bt394.1) ((i + 1 : Nat) : Int)) else (none))) (fun n => ?_) (Ev.bind (ev_frame hx.1 (by omega)) ?_)
    · simp only [joistlaw04_SumPlaces.l0]
      rw [if_pos (by omega), if_pos (by omega), hw1]
    · simp only [if_pos hsz, hfs]
      exact ih (i + 1) (by omega)
theorem SumPlaces (l : List (List Int)) (r : List Int) (hb : ∀ x ∈ l, Byt x) (hs : ∀ x ∈ l, x.length ≤ 140737488355328) (hn : l.length ≤ 140737488355328) (hr : Byt r) : ∃ k, joistlaw04_SumPlaces.f k l r = some true := by
  refine Ev.rounds ?_
  obtain ⟨v, hv, hv2⟩ := ev_weigh l 2000 (by omega) (by omega) hs hn
  refine Ev.congr (f := fun k => (joistref00_Weigh.f k l 2000).bind fun t389 => (if t389 > 2000 then (joistlaw04_SumPlaces.j0 k l r true) else (joistlaw04_SumPlaces.j0 k l r (decide ((r.length : Int) > 2000))))) (fun k => ?_) (Ev.bind hv ?_)
  · unfold joistlaw04_SumPlaces.f joistlaw04_alive.f
    simp only [Option.bind_some, if_true]
  · have htrue : Ev (fun k => joistlaw04_SumPlaces.j0 k l r true) true := by
      refine Ev.step (f := fun _ => some true) (fun k => ?_) (Ev.now _)
      simp only [joistlaw04_SumPlaces.j0]
      rw [if_pos trivial]
    by_cases h : v > 2000
    · simp only [if_pos h]
      exact htrue
    · simp only [if_neg h]
      by_cases h2 : (r.length : Int) > 2000
      · rw [decide_eq_true h2]; exact htrue
      · rw [decide_eq_false h2]
        have hwt := hv2 (by omega)
        have hfl := frames_length l
        have hll := weight_length l
        refine Ev.step (fun k => ?_) (places_l0 (l := l) (fun x hx => ⟨hb x hx, by have := weight_mem hx; omega⟩) (by omega) (by omega) hr (by omega) l.length 0 (by omega))
        simp only [joistlaw04_SumPlaces.j0]
        rw [if_neg (by decide)]
        rfl

end Go.Proofs.Ytjfmnjhkpkcakaa.Pure
