/- So many rows are the first rows of all: the tags of what is taken; in plain Lean. -/
import Derived.Test.YthbgjaboghnpjaaPureH
set_option linter.unusedVariables false
set_option linter.unusedSimpArgs false
namespace Go.Proofs.Ythbgjaboghnpjaa.Pure
open Go.RowKit Go.Proofs.Ythbgjaboghnpjaa.Q Go.Proofs.YthbgjaboghnpjaaW.PrintWords Go.Proofs.YthbgjaboghnpjaaW.PrintLast Go.Proofs.YthbgjaboghnpjaaW.PrintMore
theorem steps_ge : ∀ (r : List (S29 × Int)) (p : S29 × Int), Steps p r → ∀ q ∈ r, p.2 ≤ q.2
  | [], _, _, q, hq => by cases hq
  | q0 :: r, p, h, q, hq => by
    have h0 : p.2 ≤ q0.2 := by
      by_cases e : SR q0.1 p.1
      · rw [h.1 e]; exact Int.le_refl _
      · rw [h.2.1 e]; omega
    rcases List.mem_cons.1 hq with rfl | hq
    · exact h0
    · have := steps_ge r q0 h.2.2 q hq
      omega
theorem steps_filter (R : Int) : ∀ (r : List (S29 × Int)) (p : S29 × Int), Steps p r → (p :: r).filter (fun q => decide (q.2 < R)) = (p :: r).take ((p :: r).filter (fun q => decide (q.2 < R))).length ∧
    ∀ i (hi : i < (p :: r).length), (i < ((p :: r).filter (fun q => decide (q.2 < R))).length ↔ ((p :: r)[i]).2 < R)
  | r, p, h => by
    by_cases hp : p.2 < R
    · have e : (p :: r).filter (fun q => decide (q.2 < R)) = p :: r.filter (fun q => decide (q.2 < R)) := List.filter_cons_of_pos (by simpa using hp)
      rw [e]
      cases r with
      | nil =>
        refine ⟨by simp, fun i hi => ?_⟩
        have : i = 0 := by simp at hi; exact hi
        subst this
        simpa using hp
      | cons q r =>
        obtain ⟨h1, h2⟩ := steps_filter R r q h.2.2
        refine ⟨?_, fun i hi => ?_⟩
        · rw [List.length_cons, List.take_succ_cons, ← h1]
        · match i with
          | 0 => simpa using hp
          | i + 1 =>
            have := h2 i (by simpa using hi)
            simpa using this
    · have hge := steps_ge r p h
      have e : (p :: r).filter (fun q => decide (q.2 < R)) = [] := by
        rw [List.filter_eq_nil_iff]
        intro q hq
        rcases List.mem_cons.1 hq with rfl | hq
        · simpa using hp
        · have := hge q hq
          simp
          omega
      rw [e]
      refine ⟨by simp, fun i hi => ?_⟩
      have : ((p :: r)[i]) ∈ p :: r := List.getElem_mem _
      rcases List.mem_cons.1 this with e' | h'
      · rw [e']; simp; omega
      · have := hge _ h'
        simp
        omega
/-- The first that is taken has no row ahead; the others step. -/
def Tagged (T : List (S29 × Int)) : Prop := T = [] ∨ ∃ p r, T = p :: r ∧ p.2 = 0 ∧ Steps p r
theorem runT_tagged (f0 : List ByteArray) (f1 f2 : ByteArray) (f3 f4 f5 : Int) : ∀ (l : List S29) (s : Sv), l.Pairwise KL → s.rows = 0 → s.hit = false → l.length < 1000 → Tagged (runT f0 f1 f2 f3 f4 f5 s l)
  | [], _, _, _, _, _ => Or.inl rfl
  | e :: r, s, hp, h0, hh, hl => by
    have hp' := List.pairwise_cons.mp hp
    rw [List.length_cons] at hl
    have ht : trows s e = 0 := by
      unfold trows turnRows
      rw [if_neg (by rw [hh]; simp), h0]
    have hth : thit s e = false := by
      unfold thit turnHit
      rw [hh]
      split <;> rfl
    rw [runT]
    cases hq : svTake f0 f1 f2 f3 f4 f5 0 s e with
    | true =>
      rw [if_pos rfl, List.singleton_append]
      refine Or.inr ⟨_, _, rfl, ht, ?_⟩
      rw [next_yes _ _ _ _ _ _ _ _ _ hq]
      exact runT_steps f0 f1 f2 f3 f4 f5 r ⟨e, true, wrap64 (tn s e + 1), trows s e, true⟩ ⟨e, true, wrap64 (tn s e + 1), trows s e, true⟩ hp'.2 (fun _ _ => ⟨rfl, rfl, rfl⟩) rfl rfl hp'.1 (by show 0 ≤ trows s e; omega) (by show trows s e + _ < _; omega)
    | false =>
      rw [if_neg (by decide), List.nil_append, next_no _ _ _ _ _ _ _ _ _ hq]
      exact runT_tagged f0 f1 f2 f3 f4 f5 r _ hp'.2 ht hth (by omega)
/-- What the loop over all has counted. -/
def rowsAt (T : List (S29 × Int)) (i : Nat) : Int := if i = 0 then 0 else (T.getD (i - 1) (z29, 0)).2 + 1
theorem tagged_next {T : List (S29 × Int)} (h : Tagged T) (i : Nat) (hi : i < T.length) :
    (i = 0 → rowsAt T (i + 1) = rowsAt T i + 1) ∧ (0 < i → (SR (T.getD i (z29, 0)).1 (T.getD (i - 1) (z29, 0)).1 → rowsAt T (i + 1) = rowsAt T i) ∧ (¬ SR (T.getD i (z29, 0)).1 (T.getD (i - 1) (z29, 0)).1 → rowsAt T (i + 1) = rowsAt T i + 1)) := by
  rcases h with rfl | ⟨p, r, rfl, hp, hs⟩
  · simp at hi
  · constructor
    · rintro rfl
      simp [rowsAt, hp]
    · intro h0
      have key : ∀ (r : List (S29 × Int)) (p : S29 × Int), Steps p r → ∀ j, j + 1 < (p :: r).length → (SR ((p :: r).getD (j + 1) (z29, 0)).1 ((p :: r).getD j (z29, 0)).1 → ((p :: r).getD (j + 1) (z29, 0)).2 = ((p :: r).getD j (z29, 0)).2) ∧ (¬ SR ((p :: r).getD (j + 1) (z29, 0)).1 ((p :: r).getD j (z29, 0)).1 → ((p :: r).getD (j + 1) (z29, 0)).2 = ((p :: r).getD j (z29, 0)).2 + 1) := by
        intro r
        induction r with
        | nil => intro p _ j hj; simp at hj
        | cons q r ih =>
          intro p hs j hj
          match j with
          | 0 => exact ⟨hs.1, hs.2.1⟩
          | j + 1 => exact ih q hs.2.2 j (by simpa using hj)
      obtain ⟨j, rfl⟩ : ∃ j, i = j + 1 := ⟨i - 1, by omega⟩
      have := key r p hs j hi
      simp only [rowsAt, Nat.add_sub_cancel, if_neg (Nat.succ_ne_zero _)]
      constructor
      · intro h
        have := this.1 h
        by_cases hj : j = 0
        · subst hj; simp at this ⊢; omega
        · simp only [this]
      · intro h
        have := this.2 h
        omega
theorem rows_bound {T : List (S29 × Int)} (h : Tagged T) : ∀ i, i ≤ T.length → 0 ≤ rowsAt T i ∧ rowsAt T i ≤ i
  | 0, _ => by simp [rowsAt]
  | i + 1, hi => by
    have ih := rows_bound h i (by omega)
    have hn := tagged_next h i (by omega)
    by_cases h0 : i = 0
    · have := hn.1 h0; omega
    · have := hn.2 (by omega)
      by_cases e : SR (T.getD i (z29, 0)).1 (T.getD (i - 1) (z29, 0)).1
      · have := this.1 e; omega
      · have := this.2 e; omega
theorem right_rows (f0 : List ByteArray) (f1 f2 : ByteArray) (f3 f4 f5 f6 : Int) (h : rightB f0 f1 f2 f3 f4 f5 f6 = true) : rightB f0 f1 f2 f3 f4 f5 0 = true := by
  unfold rightB at *
  simp only [Bool.and_eq_true] at h ⊢
  obtain ⟨h1, h2, h3, h4, h5, h6, h7⟩ := h
  exact ⟨h1, h2, h3, h4, h5, h6, by decide⟩
/-- All, and some: the tags tell. -/
theorem rows_all (f0 : List ByteArray) (f1 f2 : ByteArray) (f3 f4 f5 R : Int) (hR : 0 < R) (l : List S29) (hl : l.length ≤ 80) (hp : l.Pairwise KL) :
    ∃ T : List (S29 × Int), Tagged T ∧ svRun f0 f1 f2 f3 f4 f5 0 sv0 l = T.map Prod.fst ∧ ∃ n, n ≤ T.length ∧ svRun f0 f1 f2 f3 f4 f5 R sv0 l = (T.map Prod.fst).take n ∧ (svRun f0 f1 f2 f3 f4 f5 R sv0 l).length = n ∧ ∀ i, i < T.length → (i < n ↔ rowsAt T (i + 1) ≤ R) := by
  refine ⟨runT f0 f1 f2 f3 f4 f5 sv0 l, runT_tagged f0 f1 f2 f3 f4 f5 l sv0 hp rfl rfl (by omega), (runT_fst f0 f1 f2 f3 f4 f5 l sv0).symm, ?_⟩
  rw [run_lim f0 f1 f2 f3 f4 f5 R hR l sv0 (Int.le_refl _) (by show (0 : Int) + _ < _; omega)]
  have ht := runT_tagged f0 f1 f2 f3 f4 f5 l sv0 hp rfl rfl (by omega)
  generalize runT f0 f1 f2 f3 f4 f5 sv0 l = T at ht ⊢
  rcases ht with rfl | ⟨p, r, rfl, hp0, hs⟩
  · exact ⟨0, by simp, by simp, by simp, fun i hi => by simp at hi⟩
  · obtain ⟨h1, h2⟩ := steps_filter R r p hs
    refine ⟨((p :: r).filter (fun q => decide (q.2 < R))).length, List.length_filter_le _ _, ?_, by simp, fun i hi => ?_⟩
    · rw [← List.map_take, ← h1]
    · rw [h2 i hi]
      simp only [rowsAt, Nat.add_sub_cancel, if_neg (Nat.succ_ne_zero _), List.getD_eq_getElem?_getD, List.getElem?_eq_getElem hi, Option.getD_some]
      omega
end Go.Proofs.Ythbgjaboghnpjaa.Pure
