/- A frame in which one bit of its bytes, or of its four last bytes, is turned is told as bad. -/
import Derived.Test.YtjfmnjhkpkcakaaQx16
import Derived.Test.YtjfmnjhkpkcakaaPureB
namespace Go.Proofs.Ytjfmnjhkpkcakaa.Pure
open Go.RowKit Go.Proofs.Ytjfmnjhkpkcakaa.Q Go.Proofs.YtjfmnjhkpkcakaaW.PrintWords Go.Proofs.YtjfmnjhkpkcakaaW.PrintLast Go.Proofs.YtjfmnjhkpkcakaaW.PrintMore

theorem xor_bit {c : Int} {t : Nat} (h0 : 0 ≤ c) (h1 : c < 256) (ht : t < 8) : (0 ≤ Go.bits .xor .u8 c (shl .u8 1 (t : Int)) ∧ Go.bits .xor .u8 c (shl .u8 1 (t : Int)) < 256) ∧ Go.bits .xor .u8 c (shl .u8 1 (t : Int)) ≠ c := by
  have h : ∀ t : Fin 8, ∀ n : Fin 256, (0 ≤ Go.bits .xor .u8 (n.val : Int) (shl .u8 1 (t.val : Int)) ∧ Go.bits .xor .u8 (n.val : Int) (shl .u8 1 (t.val : Int)) < 256) ∧ Go.bits .xor .u8 (n.val : Int) (shl .u8 1 (t.val : Int)) ≠ (n.val : Int) := by decide +kernel
  obtain ⟨m, rfl⟩ := Int.eq_ofNat_of_zero_le h0
  exact h ⟨t, ht⟩ ⟨m, by omega⟩
theorem sum_set (l : List Int) : ∀ (i : Nat) (h : i < l.length) (v : Int), (l.set i v).sum = l.sum - l[i] + v := by
  induction l with
  | nil => intro i h; simp at h
  | cons c l ih =>
    intro i h v
    cases i with
    | zero => simp; omega
    | succ i => simp only [List.set_cons_succ, List.sum_cons, List.getElem_cons_succ]; rw [ih i (by simpa using h) v]; omega
theorem byt_set {l : List Int} (hb : Byt l) (i : Nat) {v : Int} (h : 0 ≤ v ∧ v < 256) : Byt (l.set i v) := fun x hx => by
  rcases List.mem_or_eq_of_mem_set hx with hx | rfl
  · exact hb x hx
  · exact h
/-- Another byte at one place: another sum. -/
theorem sumOf_set {l : List Int} (hb : Byt l) (i : Nat) (h : i < l.length) {v : Int} (hv : 0 ≤ v ∧ v < 256) (hne : v ≠ l[i]) : sumOf (l.set i v) ≠ sumOf l := by
  intro e
  have h1 := ad_range l 1 0 (by omega) (by omega) (by omega) (by omega)
  have h2 := ad_range (l.set i v) 1 0 (by omega) (by omega) (by omega) (by omega)
  unfold sumOf at e
  have hx : (ad (l.set i v) 1 0).1 = (ad l 1 0).1 := by omega
  have x1 := ad_x l 1 0
  have x2 := ad_x (l.set i v) 1 0
  rw [sum_set l i h v] at x2
  rw [hx] at x2
  have hc := hb _ (List.getElem_mem h)
  omega
theorem next_bad {l : List Int} (hb : Byt l) (hn : l.length ≤ 4000) (j : Nat) (hj : j < l.length + 4) {v : Int} (hv : 0 ≤ v ∧ v < 256) (hne : v ≠ (l ++ endOf (sumOf l))[j]'(by simp [endOf_length]; omega)) :
    nextOf (numOf l.length ++ (l ++ endOf (sumOf l)).set j v) = ([], [], 2) := by
  rw [next_num (by omega) _ (by simp [endOf_length])]
  rw [if_pos ?_]
  have hr := sumOf_range l
  by_cases h : j < l.length
  · rw [List.set_append_left _ _ h]
    rw [show ((l.set j v ++ endOf (sumOf l)).take l.length) = l.set j v from by rw [List.take_append_of_le_length (by simp), List.take_of_length_le (by simp)]]
    rw [show ((l.set j v ++ endOf (sumOf l)).take (l.length + 4)).drop l.length = endOf (sumOf l) from by rw [List.take_of_length_le (by simp [endOf_length]), List.drop_left' (by simp)]]
    intro e
    rw [List.getElem_append_left h] at hne
    have hr2 := sumOf_range (l.set j v)
    exact sumOf_set hb j h hv hne (endOf_inj hr2.1 hr2.2 hr.1 hr.2 e)
  · rw [List.set_append_right _ _ (by omega)]
    rw [show ((l ++ (endOf (sumOf l)).set (j - l.length) v).take l.length) = l from List.take_left]
    rw [show ((l ++ (endOf (sumOf l)).set (j - l.length) v).take (l.length + 4)).drop l.length = (endOf (sumOf l)).set (j - l.length) v from by rw [List.take_of_length_le (by simp [endOf_length]), List.drop_left]]
    intro e
    rw [List.getElem_append_right (by omega)] at hne
    have hlt : j - l.length < (endOf (sumOf l)).length := by rw [endOf_length]; omega
    have := congrArg (fun x : List Int => x[j - l.length]?) e
    simp only [List.getElem?_set_self hlt, List.getElem?_eq_getElem hlt, Option.some.injEq] at this
    exact hne this.symm

theorem getElem_behind (A B : List Int) (i : Nat) (h : i < (A ++ B).length) (h2 : A.length ≤ i) : (A ++ B)[i] = B[i - A.length]'(by simp at h; omega) := List.getElem_append_right h2
theorem SumBits : joistlaw04_SumBits.Pure := by
  intro l bit hm hs hw hbw
  have hb := byt_of_wf hw
  refine Ev.rounds ?_
  by_cases h3 : (l.length : Int) > 3000
  · refine Ev.congr (fun k => ?_) (Ev.now _)
    unfold joistlaw04_SumBits.f joistlaw04_alive.f
    simp only [Option.bind_some, if_true]
    rw [if_pos h3]
  · have hF := frame_length l
    have hnl : 1 ≤ (numOf (l.length : Int)).length := by unfold numOf; split <;> simp
    have hnl2 : (numOf (l.length : Int)).length ≤ 2 := by unfold numOf; split <;> simp
    have e0 : wrap64 ((l.length : Int) + 5) = (l.length : Int) + 5 := w64 (by omega) (by omega)
    refine Ev.congr (f := fun k => (sum_Frame.f k l).bind fun bt167 => (if bt167.2 = true then (joistlaw04_SumBits.j0 k l bit bt167.1 (decide ((bt167.1.length : Int) < (wrap64 ((l.length : Int) + 5))))) else (joistlaw04_SumBits.j0 k l bit bt167.1 true))) (fun k => ?_) (Ev.bind (ev_frame hb (by omega)) ?_)
    · unfold joistlaw04_SumBits.f joistlaw04_alive.f
      simp only [Option.bind_some, if_true]
      rw [if_neg h3]
    · refine Ev.congr (f := fun k => joistlaw04_SumBits.j0 k l bit (frameOf l) false) (fun k => ?_) ?_
      · simp only [if_true]
        rw [decide_eq_false (by rw [e0]; omega)]
      · have e1 : wrap64 (8 * (wrap64 ((wrap64 (((frameOf l).length : Int) - (l.length : Int))) - 4))) = 8 * ((numOf (l.length : Int)).length : Int) := by
          rw [w64 (x := ((frameOf l).length : Int) - (l.length : Int)) (by omega) (by omega), w64 (x := ((frameOf l).length : Int) - (l.length : Int) - 4) (by omega) (by omega), w64 (by omega) (by omega)]
          omega
        have e2 : wrap64 (8 * ((frameOf l).length : Int)) = 8 * ((frameOf l).length : Int) := w64 (by omega) (by omega)
        by_cases c1 : bit < 8 * ((numOf (l.length : Int)).length : Int)
        · refine Ev.step (f := fun _ => some true) (fun k => ?_) (Ev.now _)
          simp only [joistlaw04_SumBits.j0]
          rw [if_neg (by decide), e1, if_pos c1]
        · by_cases c2 : bit ≥ 8 * ((frameOf l).length : Int)
          · refine Ev.step (f := fun _ => some true) (fun k => ?_) (Ev.now _)
            simp only [joistlaw04_SumBits.j0]
            rw [if_neg (by decide), e1, if_neg c1, e2, if_pos c2]
          · obtain ⟨b, rfl⟩ := Int.eq_ofNat_of_zero_le (show 0 ≤ bit by omega)
            have d1 : wrap64 (Int.tdiv (b : Int) 8) = ((b / 8 : Nat) : Int) := by
              rw [Int.tdiv_eq_ediv_of_nonneg (by omega), w64 (by omega) (by omega)]; rfl
            have d2 : IntKind.u64.wrap (Int.tmod (b : Int) 8) = ((b % 8 : Nat) : Int) := by
              rw [tmod_pos (by omega)]
              have hu : IntKind.u64.wrap ((b : Int) % 8) = ((b : Int) % 8) % 18446744073709551616 := by simp [IntKind.wrap, IntKind.bits, IntKind.signed]
              rw [hu]
              clear e0 e1 e2
              omega
            have hlt : b / 8 < (frameOf l).length := by omega
            have hc := rd_byt (byt_frame hb (by omega)) (b / 8) hlt
            obtain ⟨hv, hne⟩ := xor_bit (c := rd (frameOf l) ((b / 8 : Nat) : Int)) (t := b % 8) hc.1 hc.2 (by omega)
            obtain ⟨v, hvd⟩ : ∃ v, v = Go.bits .xor .u8 (rd (frameOf l) ((b / 8 : Nat) : Int)) (shl .u8 1 ((b % 8 : Nat) : Int)) := ⟨_, rfl⟩
            rw [← hvd] at hv hne
            have c1' : ¬ ((b : Int) < 8 * ((numOf (l.length : Int)).length : Int)) := c1
            have z1 : (0 : Int) ≤ ((b / 8 : Nat) : Int) := by omega
            have z2 : ((b / 8 : Nat) : Int) < ((frameOf l).length : Int) := by omega
            have z3 : (0 : Int) ≤ ((b % 8 : Nat) : Int) := by omega
            have hlen : ((frameOf l).set (b / 8) v).length < 140737488351232 := by rw [List.length_set]; omega
            have hstep : ∀ k, joistlaw04_SumBits.j0 (k + 1) l (b : Int) (frameOf l) false = (sum_Next.f k ((frameOf l).set (b / 8) v)).bind fun bt173 => (if (bt173.1.length : Int) = 0 then (if (bt173.2.1.length : Int) = 0 then (some (bt173.2.2 == 2)) else (some false)) else (some false)) := by
              intro k
              simp only [joistlaw04_SumBits.j0]
              rw [if_neg (by decide), e1, if_neg c1, e2, if_neg c2, d1, d2, if_pos z1, if_pos z2, if_pos z3, ← hvd, Int.toNat_natCast]
            clear hvd
            have hset : (frameOf l).set (b / 8) v = numOf l.length ++ (l ++ endOf (sumOf l)).set (b / 8 - (numOf l.length).length) v := by
              unfold frameOf; rw [List.set_append_right _ _ (by omega)]
            have hbad : nextOf ((frameOf l).set (b / 8) v) = ([], [], 2) := by
              rw [hset]
              refine next_bad hb (by omega) _ (by omega) hv ?_
              rw [rd_nat _ _ hlt] at hne
              have this := getElem_behind (numOf l.length) (l ++ endOf (sumOf l)) (b / 8) hlt (by omega)
              rw [← this]; exact hne
            have hen := ev_next (byt_set (byt_frame hb (by omega)) (b / 8) hv) hlen
            rw [hbad] at hen
            refine Ev.step hstep (Ev.bind hen ?_)
            exact Ev.congr (fun _ => by simp) (Ev.now true)

end Go.Proofs.Ytjfmnjhkpkcakaa.Pure
