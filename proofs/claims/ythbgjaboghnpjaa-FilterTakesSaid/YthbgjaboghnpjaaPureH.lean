/- So many rows are the first rows of all: of the sieve alone, in plain Lean. -/
import Derived.Test.YthbgjaboghnpjaaPureI
set_option linter.unusedVariables false
set_option linter.unusedSimpArgs false
namespace Go.Proofs.Ythbgjaboghnpjaa.Pure
open Go.RowKit Go.Proofs.Ythbgjaboghnpjaa.Q Go.Proofs.YthbgjaboghnpjaaW.PrintWords Go.Proofs.YthbgjaboghnpjaaW.PrintLast Go.Proofs.YthbgjaboghnpjaaW.PrintMore

/-- what is taken without the limit of rows, each with the rows ahead of it -/
def runT (f0 : List ByteArray) (f1 f2 : ByteArray) (f3 f4 f5 : Int) : Sv → List S29 → List (S29 × Int)
  | _, [] => []
  | s, c :: r => (if svTake f0 f1 f2 f3 f4 f5 0 s c = true then [(c, trows s c)] else []) ++ runT f0 f1 f2 f3 f4 f5 (svNext f0 f1 f2 f3 f4 f5 0 s c) r
theorem runT_fst (f0 : List ByteArray) (f1 f2 : ByteArray) (f3 f4 f5 : Int) : ∀ (l : List S29) (s : Sv), (runT f0 f1 f2 f3 f4 f5 s l).map Prod.fst = svRun f0 f1 f2 f3 f4 f5 0 s l
  | [], s => rfl
  | c :: r, s => by
    rw [runT, svRun, List.map_append, runT_fst f0 f1 f2 f3 f4 f5 r]
    split <;> rfl
theorem next_rows (f0 : List ByteArray) (f1 f2 : ByteArray) (f3 f4 f5 f6 : Int) (s : Sv) (c : S29) : (svNext f0 f1 f2 f3 f4 f5 f6 s c).rows = trows s c := rfl
theorem trows_ge (s : Sv) (c : S29) (h : 0 ≤ s.rows) (h2 : s.rows < 1000000) : s.rows ≤ trows s c ∧ trows s c ≤ s.rows + 1 := by
  unfold trows turnRows
  split
  · unfold wrap64; omega
  · omega
theorem take_lim (f0 : List ByteArray) (f1 f2 : ByteArray) (f3 f4 f5 : Int) (R : Int) (hR : 0 < R) (s : Sv) (c : S29) : svTake f0 f1 f2 f3 f4 f5 R s c = (svTake f0 f1 f2 f3 f4 f5 0 s c && decide (trows s c < R)) := by
  rw [take_eq, take_eq]
  unfold want lets
  have h1 : decide (R = 0) = false := decide_eq_false (by omega)
  rw [h1]
  by_cases h2 : trows s c < R
  · have : ¬ trows s c ≥ R := by omega
    simp [h2, this]
  · have : trows s c ≥ R := by omega
    simp [h2, this]
theorem run_none (f0 : List ByteArray) (f1 f2 : ByteArray) (f3 f4 f5 : Int) (R : Int) (hR : 0 < R) : ∀ (l : List S29) (s : Sv), R ≤ s.rows → s.rows + l.length < 1000000 → svRun f0 f1 f2 f3 f4 f5 R s l = []
  | [], _, _, _ => rfl
  | c :: r, s, h, hb => by
    rw [List.length_cons] at hb
    have ht := trows_ge s c (by omega) (by omega)
    have hq : svTake f0 f1 f2 f3 f4 f5 R s c = false := by
      rw [take_lim f0 f1 f2 f3 f4 f5 R hR, decide_eq_false (by omega), Bool.and_false]
    rw [svRun, hq, if_neg (by decide), List.nil_append]
    exact run_none f0 f1 f2 f3 f4 f5 R hR r _ (by rw [next_rows]; omega) (by rw [next_rows]; omega)
theorem runT_ge (f0 : List ByteArray) (f1 f2 : ByteArray) (f3 f4 f5 : Int) (R : Int) : ∀ (l : List S29) (s : Sv), R ≤ s.rows → 0 ≤ s.rows → s.rows + l.length < 1000000 → (runT f0 f1 f2 f3 f4 f5 s l).filter (fun p => decide (p.2 < R)) = []
  | [], _, _, _, _ => rfl
  | c :: r, s, h, h0, hb => by
    rw [List.length_cons] at hb
    have ht := trows_ge s c h0 (by omega)
    rw [runT, List.filter_append, runT_ge f0 f1 f2 f3 f4 f5 R r _ (by rw [next_rows]; omega) (by rw [next_rows]; omega) (by rw [next_rows]; omega), List.append_nil]
    split
    · rw [List.filter_cons_of_neg (by simp; omega)]; rfl
    · rfl
/-- With the limit: those of all that have fewer rows ahead. -/
theorem run_lim (f0 : List ByteArray) (f1 f2 : ByteArray) (f3 f4 f5 : Int) (R : Int) (hR : 0 < R) : ∀ (l : List S29) (s : Sv), 0 ≤ s.rows → s.rows + l.length < 1000000 → svRun f0 f1 f2 f3 f4 f5 R s l = ((runT f0 f1 f2 f3 f4 f5 s l).filter (fun p => decide (p.2 < R))).map Prod.fst
  | [], _, _, _ => rfl
  | c :: r, s, h0, hb => by
    rw [List.length_cons] at hb
    have ht := trows_ge s c h0 (by omega)
    rw [svRun, runT, List.filter_append, List.map_append]
    by_cases hlt : trows s c < R
    · have hq : svTake f0 f1 f2 f3 f4 f5 R s c = svTake f0 f1 f2 f3 f4 f5 0 s c := by rw [take_lim f0 f1 f2 f3 f4 f5 R hR, decide_eq_true hlt, Bool.and_true]
      have hn : svNext f0 f1 f2 f3 f4 f5 R s c = svNext f0 f1 f2 f3 f4 f5 0 s c := by
        cases h : svTake f0 f1 f2 f3 f4 f5 0 s c with
        | true => rw [next_yes _ _ _ _ _ _ _ _ _ h, next_yes _ _ _ _ _ _ _ _ _ (hq.trans h)]
        | false => rw [next_no _ _ _ _ _ _ _ _ _ h, next_no _ _ _ _ _ _ _ _ _ (hq.trans h)]
      rw [hq, hn, run_lim f0 f1 f2 f3 f4 f5 R hR r _ (by rw [next_rows]; omega) (by rw [next_rows]; omega)]
      congr 1
      split
      · rw [List.filter_cons_of_pos (by simpa using hlt)]; rfl
      · rfl
    · have hq : svTake f0 f1 f2 f3 f4 f5 R s c = false := by rw [take_lim f0 f1 f2 f3 f4 f5 R hR, decide_eq_false hlt, Bool.and_false]
      rw [hq, if_neg (by decide), List.nil_append, run_none f0 f1 f2 f3 f4 f5 R hR r _ (by rw [next_rows]; omega) (by rw [next_rows]; omega), runT_ge f0 f1 f2 f3 f4 f5 R r _ (by rw [next_rows]; omega) (by rw [next_rows]; omega) (by rw [next_rows]; omega)]
      split
      · rw [List.filter_cons_of_neg (by simpa using hlt)]; rfl
      · rfl
/-- one more row for each cell of another row -/
def Steps : S29 × Int → List (S29 × Int) → Prop
  | _, [] => True
  | p, q :: r => (SR q.1 p.1 → q.2 = p.2) ∧ (¬ SR q.1 p.1 → q.2 = p.2 + 1) ∧ Steps q r
theorem runT_steps (f0 : List ByteArray) (f1 f2 : ByteArray) (f3 f4 f5 : Int) : ∀ (l : List S29) (s t : Sv), l.Pairwise KL → Agree s t l → t.some = true → t.hit = true → (∀ d ∈ l, KL t.c d) → 0 ≤ t.rows → t.rows + l.length < 1000000 → Steps (t.c, t.rows) (runT f0 f1 f2 f3 f4 f5 s l)
  | [], _, _, _, _, _, _, _, _, _ => trivial
  | e :: r, s, t, hp, ha, hs, hh, hk, h0, hb => by
    rw [List.length_cons] at hb
    rw [runT]
    obtain ⟨a1, a2, a3⟩ := ha e List.mem_cons_self
    have hp' := List.pairwise_cons.mp hp
    cases hq : svTake f0 f1 f2 f3 f4 f5 0 s e with
    | true =>
      rw [if_pos rfl, List.singleton_append]
      have ht := trows_ge t e h0 (by omega)
      refine ⟨fun h => ?_, fun h => ?_, ?_⟩
      · show trows s e = t.rows
        rw [a2, trows_same h]
      · show trows s e = t.rows + 1
        rw [a2, trows_other h hs, if_pos hh]
        unfold wrap64
        omega
      · rw [next_yes _ _ _ _ _ _ _ _ _ hq]
        have := runT_steps f0 f1 f2 f3 f4 f5 r ⟨e, true, wrap64 (tn s e + 1), trows s e, true⟩ ⟨e, true, wrap64 (tn s e + 1), trows s e, true⟩ hp'.2 (fun _ _ => ⟨rfl, rfl, rfl⟩) rfl rfl hp'.1 (by show 0 ≤ trows s e; rw [a2]; omega) (by show trows s e + _ < _; rw [a2]; omega)
        exact this
    | false =>
      rw [if_neg (by decide), List.nil_append, next_no _ _ _ _ _ _ _ _ _ hq]
      exact runT_steps f0 f1 f2 f3 f4 f5 r _ t hp'.2 (agree_skip s t e r hp ha (.inr ⟨hs, hk⟩)) hs hh (fun d hd => hk d (List.mem_cons_of_mem _ hd)) h0 (by omega)
end Go.Proofs.Ythbgjaboghnpjaa.Pure
