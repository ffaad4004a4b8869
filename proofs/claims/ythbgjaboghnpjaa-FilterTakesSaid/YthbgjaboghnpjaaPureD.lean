/- The document's Sort of small cells: in the order of row, family and qualifier, and of those cells; on the printed functions alone. -/
import Derived.Test.YthbgjaboghnpjaaPureC
set_option linter.unusedVariables false
set_option linter.unusedSimpArgs false
namespace Go.Proofs.Ythbgjaboghnpjaa.Pure
open Go.RowKit Go.Proofs.Ythbgjaboghnpjaa.Q Go.Proofs.YthbgjaboghnpjaaW.PrintWords Go.Proofs.YthbgjaboghnpjaaW.PrintLast Go.Proofs.YthbgjaboghnpjaaW.PrintMore

theorem rd_at (l : List S29) (i : Nat) (h : i < l.length) : rd_T29 l (i : Int) = l[i] := by
  simp [rd_T29, List.getD_eq_getElem?_getD, List.getElem?_eq_getElem h]
theorem sort_j2 (l : List S29) (i : Nat) (hi : i < l.length) (out : List S29) (j : Nat) (hj : j < out.length) (hl : out.length ≤ 1000) (next : List S29) (hn : next.length ≤ 2 * j) (d : Bool) (t : Int) (b : Bool) (R : List S29)
    (h : Ev (fun k => joistref06_Sort.l1 k l out (i : Int) ((next ++ (if b = true then [l[i]] else [])) ++ (if t = 0 then [] else [out[j]])) (d || b) ((j + 1 : Nat) : Int)) R) :
    Ev (fun k => joistref06_Sort.j2 k l out (i : Int) next d (j : Int) t b) R := by
  have e1 := rd_at l i hi
  have e2 := rd_at out j hj
  cases b with
  | true =>
    simp only [if_true, Bool.or_true] at h
    by_cases ht : t = 0
    · simp only [ht, if_true, List.append_nil] at h
      exact Ev.step (fun k => by simp only [joistref06_Sort.j2, if_true]; rw [if_pos (by omega), if_pos (by omega), if_pos (by omega), Option.bind_some, if_pos ht, e1, wrap_one j (by omega)]) h
    · simp only [ht, if_false] at h
      refine Ev.step (fun k => by simp only [joistref06_Sort.j2, if_true]; rw [if_pos (by omega), if_pos (by omega), if_pos (by omega), Option.bind_some, if_neg ht, if_pos (by omega), if_pos (by omega), if_pos (by rw [List.length_append, List.length_singleton]; omega), e1, e2, wrap_one j (by omega)]) h
  | false =>
    simp only [Bool.false_eq_true, if_false, Bool.or_false, List.append_nil] at h
    by_cases ht : t = 0
    · simp only [ht, if_true, List.append_nil] at h
      exact Ev.step (fun k => by simp only [joistref06_Sort.j2, Bool.false_eq_true, if_false]; rw [if_pos ht, wrap_one j (by omega)]) h
    · simp only [ht, if_false] at h
      exact Ev.step (fun k => by simp only [joistref06_Sort.j2, Bool.false_eq_true, if_false]; rw [if_neg ht, if_pos (by omega), if_pos (by omega), if_pos (by omega), e2, wrap_one j (by omega)]) h
theorem sort_l1 (l : List S29) (i : Nat) (hi : i < l.length) (hil : l.length ≤ 1000) (hs : Small l[i]) (out : List S29) (hl : out.length ≤ 1000) (R : List S29) :
    ∀ (m j : Nat) (next : List S29) (d : Bool), j + m = out.length → next.length ≤ 2 * j → Ev (fun k => joistref06_Sort.l0 k l (next ++ insGo l[i] d (out.drop j)) ((i + 1 : Nat) : Int)) R → Ev (fun k => joistref06_Sort.l1 k l out (i : Int) next d (j : Int)) R
  | 0, j, next, d, hj, hn, h => by
    have e1 := rd_at l i hi
    rw [List.drop_eq_nil_iff.mpr (by omega)] at h
    cases d with
    | true =>
      simp only [insGo, if_true, List.append_nil] at h
      exact Ev.step (fun k => by simp only [joistref06_Sort.l1, if_true]; rw [if_neg (by omega), wrap_one i (by omega)]) h
    | false =>
      simp only [insGo, Bool.false_eq_true, if_false] at h
      exact Ev.step (fun k => by simp only [joistref06_Sort.l1, Bool.false_eq_true, if_false]; rw [if_neg (by omega), if_pos (by omega), if_pos (by omega), if_pos (by omega), e1, wrap_one i (by omega)]) h
  | m + 1, j, next, d, hj, hn, h => by
    have hj1 : j < out.length := by omega
    have e1 := rd_at l i hi
    have e2 := rd_at out j hj1
    rw [List.drop_eq_getElem_cons hj1, insGo] at h
    refine Ev.step (fun k => by simp only [joistref06_Sort.l1]; rw [if_pos (by omega), if_pos (by omega), if_pos (by omega), if_pos (by omega), e1, e2]) ?_
    refine Ev.bind (Order l[i] out[j] hs) ?_
    have key : ∀ b : Bool, b = (!d && decide (ordC l[i] out[j] ≤ 0)) → Ev (fun k => joistref06_Sort.j2 k l out (i : Int) next d (j : Int) (ordC l[i] out[j]) b) R := by
      intro b hb
      refine sort_j2 l i hi out j hj1 hl next hn d _ b R ?_
      refine sort_l1 l i hi hil hs out hl R m (j + 1) _ _ (by omega) ?_ ?_
      · rw [List.length_append, List.length_append]
        split <;> split <;> simp <;> omega
      · have hd : (d || b) = (d || decide (ordC l[i] out[j] ≤ 0)) := by rw [hb]; cases d <;> simp
        rw [hd, hb]
        simpa only [List.append_assoc] using h
    cases d with
    | true => exact Ev.congr (fun k => if_pos rfl) (key false (by simp))
    | false => exact Ev.congr (fun k => if_neg (by simp)) (key _ (by simp))
theorem sort_l0 (l : List S29) (hil : l.length ≤ 1000) (hs : ∀ c ∈ l, Small c) :
    ∀ (m i : Nat) (out : List S29), i + m = l.length → out.length ≤ i → out.Pairwise KL → (∀ c ∈ out, Rq c) → (∀ c ∈ out, c ∈ l) → ∃ r, Ev (fun k => joistref06_Sort.l0 k l out (i : Int)) r ∧ r.Pairwise KL ∧ (∀ c ∈ r, c ∈ l) ∧ r.length ≤ l.length
  | 0, i, out, hi, hn, hp, hq, hm => ⟨out, Ev.step (fun k => by simp only [joistref06_Sort.l0]; rw [if_neg (by omega)]) (Ev.now _), hp, hm, by omega⟩
  | m + 1, i, out, hi, hn, hp, hq, hm => by
    have hi1 : i < l.length := by omega
    have e1 := rd_at l i hi1
    have hsi := hs l[i] (List.getElem_mem hi1)
    obtain ⟨b, hb, hr⟩ := Right03 l[i] hsi
    cases b with
    | true =>
      have hx := hr rfl
      have hlen := ins_length l[i] out false
      simp only [Bool.false_eq_true, if_false] at hlen
      obtain ⟨r, e, p⟩ := sort_l0 l hil hs m (i + 1) (insGo l[i] false out) (by omega) (by omega) (ins_pair _ hx out hq hp)
        (fun c hc => by rcases ins_sub _ _ _ _ hc with h | h; exact h ▸ hx; exact hq c h)
        (fun c hc => by rcases ins_sub _ _ _ _ hc with h | h; exact h ▸ List.getElem_mem hi1; exact hm c h)
      refine ⟨r, ?_, p⟩
      refine Ev.step (fun k => by simp only [joistref06_Sort.l0]; rw [if_pos (by omega), if_pos (by omega), e1]) ?_
      refine Ev.bind hb ?_
      refine Ev.congr (fun k => if_pos rfl) ?_
      exact sort_l1 l i hi1 hil hsi out (by omega) r out.length 0 [] false (by omega) (by simp) (by simpa using e)
    | false =>
      obtain ⟨r, e, p⟩ := sort_l0 l hil hs m (i + 1) out (by omega) (by omega) hp hq hm
      refine ⟨r, ?_, p⟩
      refine Ev.step (fun k => by simp only [joistref06_Sort.l0]; rw [if_pos (by omega), if_pos (by omega), e1, wrap_one i (by omega)]) ?_
      refine Ev.bind hb ?_
      exact Ev.congr (fun k => if_neg (by simp)) e
theorem SortOk (l : List S29) (hil : l.length ≤ 1000) (hs : ∀ c ∈ l, Small c) : ∃ r, Ev (fun k => joistref06_Sort.f k l) r ∧ r.Pairwise KL ∧ (∀ c ∈ r, c ∈ l) ∧ r.length ≤ l.length :=
  sort_l0 l hil hs l.length 0 [] (by omega) (by simp) List.Pairwise.nil (fun _ h => by cases h) (fun _ h => by cases h)
end Go.Proofs.Ythbgjaboghnpjaa.Pure
