/- What is taken lies among what came, in order; each with the rows ahead of it and its number in its column; in plain Lean. -/
import Derived.Test.YthbgjaboghnpjaaR0
set_option linter.unusedVariables false
set_option linter.unusedSimpArgs false
namespace Go.Proofs.Ythbgjaboghnpjaa.Pure
open Go.RowKit Go.Proofs.Ythbgjaboghnpjaa.Q Go.Proofs.YthbgjaboghnpjaaW.PrintWords Go.Proofs.YthbgjaboghnpjaaW.PrintLast Go.Proofs.YthbgjaboghnpjaaW.PrintMore
/-- Are two cells unlike, field by field? -/
def neB (x y : S29) : Bool := (!(x.f0.toList == y.f0.toList) || (!(x.f1.toList == y.f1.toList) || (!(x.f2.toList == y.f2.toList) || (!(x.f3 == y.f3) || (!(x.f4 == y.f4) || (!(x.f5.f0 == y.f5.f0) || (!(x.f5.f1 == y.f5.f1) || !(x.f5.f2.toList == y.f5.f2.toList))))))))
theorem neB_self (x : S29) : neB x x = false := by simp [neB]
/-- The first lie among the second, in order. -/
def Emb : List S29 → List S29 → Prop
  | [], _ => True
  | _ :: _, [] => False
  | x :: a, y :: L => (neB y x = false ∧ Emb a L) ∨ Emb (x :: a) L
theorem emb_skip : ∀ (a L : List S29) (y : S29), Emb a L → Emb a (y :: L)
  | [], _, _, _ => trivial
  | x :: a, L, y, h => Or.inr h
theorem emb_tail : ∀ (L : List S29) (a : List S29) (x : S29), Emb (x :: a) L → Emb a L
  | [], a, x, h => h.elim
  | y :: L, a, x, h => by
    rcases h with ⟨_, h⟩ | h
    · exact emb_skip a L y h
    · exact emb_skip a L y (emb_tail L a x h)
theorem emb_hit {a L : List S29} {x y : S29} (h : Emb (x :: a) (y :: L)) : Emb a L := by
  rcases h with ⟨_, h⟩ | h
  · exact h
  · exact emb_tail L a x h
theorem emb_miss {a L : List S29} {x y : S29} (h : Emb (x :: a) (y :: L)) (hn : neB y x = true) : Emb (x :: a) L := by
  rcases h with ⟨h, _⟩ | h
  · rw [hn] at h; cases h
  · exact h
theorem emb_run (f0 : List ByteArray) (f1 f2 : ByteArray) (f3 f4 f5 f6 : Int) : ∀ (l : List S29) (s : Sv), Emb (svRun f0 f1 f2 f3 f4 f5 f6 s l) l
  | [], s => trivial
  | c :: r, s => by
    rw [svRun]
    split
    · exact Or.inl ⟨neB_self c, emb_run f0 f1 f2 f3 f4 f5 f6 r _⟩
    · exact emb_skip _ _ _ (emb_run f0 f1 f2 f3 f4 f5 f6 r _)
theorem svRun_mem (f0 : List ByteArray) (f1 f2 : ByteArray) (f3 f4 f5 f6 : Int) : ∀ (l : List S29) (s : Sv) (c : S29), c ∈ svRun f0 f1 f2 f3 f4 f5 f6 s l → c ∈ l
  | [], s, c, h => by cases h
  | d :: r, s, c, h => by
    rw [svRun] at h
    rcases List.mem_append.1 h with h | h
    · split at h
      · simp at h; subst h; exact List.mem_cons_self
      · cases h
    · exact List.mem_cons_of_mem _ (svRun_mem f0 f1 f2 f3 f4 f5 f6 r _ c h)
/-- What is taken, each with the rows ahead of it and its number in its column. -/
def runA (f0 : List ByteArray) (f1 f2 : ByteArray) (f3 f4 f5 f6 : Int) : Sv → List S29 → List (S29 × Int × Int)
  | _, [] => []
  | s, c :: r => (if svTake f0 f1 f2 f3 f4 f5 f6 s c = true then [(c, trows s c, tn s c + 1)] else []) ++ runA f0 f1 f2 f3 f4 f5 f6 (svNext f0 f1 f2 f3 f4 f5 f6 s c) r
theorem runA_fst (f0 : List ByteArray) (f1 f2 : ByteArray) (f3 f4 f5 f6 : Int) : ∀ (l : List S29) (s : Sv), (runA f0 f1 f2 f3 f4 f5 f6 s l).map Prod.fst = svRun f0 f1 f2 f3 f4 f5 f6 s l
  | [], s => rfl
  | c :: r, s => by
    rw [runA, svRun, List.map_append, runA_fst f0 f1 f2 f3 f4 f5 f6 r]
    split <;> rfl
/-- Each is let, no more rows and versions than are asked for. -/
theorem runA_ok (f0 : List ByteArray) (f1 f2 : ByteArray) (f3 f4 f5 f6 : Int) : ∀ (l : List S29) (s : Sv), ∀ p ∈ runA f0 f1 f2 f3 f4 f5 f6 s l, lets f0 f1 f2 f3 f4 f5 f6 p.1 = true ∧ (f6 = 0 ∨ p.2.1 < f6) ∧ (f5 = 0 ∨ p.2.2 ≤ f5)
  | [], s, p, hp => by cases hp
  | c :: r, s, p, hp => by
    rw [runA] at hp
    rcases List.mem_append.1 hp with hp | hp
    · cases hq : svTake f0 f1 f2 f3 f4 f5 f6 s c with
      | true =>
        rw [if_pos hq] at hp
        simp at hp
        subst hp
        rw [take_eq] at hq
        unfold want at hq
        simp only [Bool.and_eq_true, Bool.or_eq_true, Bool.not_eq_true', Bool.and_eq_false_iff, decide_eq_true_eq, decide_eq_false_iff_not, Bool.not_eq_false'] at hq
        refine ⟨hq.1, ?_, ?_⟩
        · rcases hq.2.2 with h | h
          · left; exact h
          · right; show trows s c < f6; omega
        · rcases hq.2.1 with h | h
          · left; exact h
          · right; show tn s c + 1 ≤ f5; omega
      | false => rw [hq, if_neg (by decide)] at hp; cases hp
    · exact runA_ok f0 f1 f2 f3 f4 f5 f6 r _ p hp
def StepsA : S29 × Int × Int → List (S29 × Int × Int) → Prop
  | _, [] => True
  | p, q :: r => (SR q.1 p.1 → q.2.1 = p.2.1) ∧ (¬ SR q.1 p.1 → q.2.1 = p.2.1 + 1) ∧ (SC q.1 p.1 → q.2.2 = p.2.2 + 1) ∧ (¬ SC q.1 p.1 → q.2.2 = 1) ∧ StepsA q r
theorem runA_steps (f0 : List ByteArray) (f1 f2 : ByteArray) (f3 f4 f5 f6 : Int) : ∀ (l : List S29) (s t : Sv), l.Pairwise KL → Agree s t l → t.some = true → t.hit = true → (∀ d ∈ l, KL t.c d) → 0 ≤ t.rows → t.rows + l.length < 1000000 → 0 ≤ t.n → t.n + l.length < 1000000 → StepsA (t.c, t.rows, t.n) (runA f0 f1 f2 f3 f4 f5 f6 s l)
  | [], _, _, _, _, _, _, _, _, _, _, _ => trivial
  | e :: r, s, t, hp, ha, hs, hh, hk, h0, hb, hn0, hnb => by
    rw [List.length_cons] at hb hnb
    rw [runA]
    obtain ⟨a1, a2, a3⟩ := ha e List.mem_cons_self
    have hp' := List.pairwise_cons.mp hp
    have htn : 0 ≤ tn t e ∧ tn t e ≤ t.n := by
      by_cases hc : SC e t.c
      · rw [tn_pos hc]; exact ⟨hn0, Int.le_refl _⟩
      · rw [tn_neg hc]; exact ⟨Int.le_refl _, hn0⟩
    cases hq : svTake f0 f1 f2 f3 f4 f5 f6 s e with
    | true =>
      rw [if_pos rfl, List.singleton_append]
      have ht := trows_ge t e h0 (by omega)
      refine ⟨fun h => ?_, fun h => ?_, fun h => ?_, fun h => ?_, ?_⟩
      · show trows s e = t.rows
        rw [a2, trows_same h]
      · show trows s e = t.rows + 1
        rw [a2, trows_other h hs, if_pos hh]
        unfold wrap64
        omega
      · show tn s e + 1 = t.n + 1
        rw [a1, tn_pos h]
      · show tn s e + 1 = 1
        rw [a1, tn_neg h]; rfl
      · have hw : wrap64 (tn s e + 1) = tn s e + 1 := by rw [a1]; unfold wrap64; omega
        rw [next_yes _ _ _ _ _ _ _ _ _ hq, hw]
        have := runA_steps f0 f1 f2 f3 f4 f5 f6 r ⟨e, true, tn s e + 1, trows s e, true⟩ ⟨e, true, tn s e + 1, trows s e, true⟩ hp'.2 (fun _ _ => ⟨rfl, rfl, rfl⟩) rfl rfl hp'.1 (by show 0 ≤ trows s e; rw [a2]; omega) (by show trows s e + _ < _; rw [a2]; omega) (by show 0 ≤ tn s e + 1; rw [a1]; omega) (by show tn s e + 1 + _ < _; rw [a1]; omega)
        exact this
    | false =>
      rw [if_neg (by decide), List.nil_append, next_no _ _ _ _ _ _ _ _ _ hq]
      exact runA_steps f0 f1 f2 f3 f4 f5 f6 r _ t hp'.2 (agree_skip s t e r hp ha (.inr ⟨hs, hk⟩)) hs hh (fun d hd => hk d (List.mem_cons_of_mem _ hd)) h0 (by omega) hn0 (by omega)
def TaggedA (T : List (S29 × Int × Int)) : Prop := T = [] ∨ ∃ p r, T = p :: r ∧ p.2.1 = 0 ∧ p.2.2 = 1 ∧ StepsA p r
theorem runA_tagged (f0 : List ByteArray) (f1 f2 : ByteArray) (f3 f4 f5 f6 : Int) : ∀ (l : List S29) (s : Sv), l.Pairwise KL → s.rows = 0 → s.hit = false → s.n = 0 → l.length < 1000 → TaggedA (runA f0 f1 f2 f3 f4 f5 f6 s l)
  | [], _, _, _, _, _, _ => Or.inl rfl
  | e :: r, s, hp, h0, hh, hn, hl => by
    have hp' := List.pairwise_cons.mp hp
    rw [List.length_cons] at hl
    have ht : trows s e = 0 := by
      unfold trows turnRows
      rw [if_neg (by rw [hh]; simp), h0]
    have hth : thit s e = false := by
      unfold thit turnHit
      rw [hh]
      split <;> rfl
    have htn : tn s e = 0 := tn_new hn
    rw [runA]
    cases hq : svTake f0 f1 f2 f3 f4 f5 f6 s e with
    | true =>
      rw [if_pos rfl, List.singleton_append]
      have hw : wrap64 (tn s e + 1) = tn s e + 1 := by rw [htn]; unfold wrap64; omega
      refine Or.inr ⟨_, _, rfl, ht, by show tn s e + 1 = 1; rw [htn]; rfl, ?_⟩
      rw [next_yes _ _ _ _ _ _ _ _ _ hq, hw]
      exact runA_steps f0 f1 f2 f3 f4 f5 f6 r ⟨e, true, tn s e + 1, trows s e, true⟩ ⟨e, true, tn s e + 1, trows s e, true⟩ hp'.2 (fun _ _ => ⟨rfl, rfl, rfl⟩) rfl rfl hp'.1 (by show 0 ≤ trows s e; omega) (by show trows s e + _ < _; omega) (by show 0 ≤ tn s e + 1; omega) (by show tn s e + 1 + _ < _; omega)
    | false =>
      rw [if_neg (by decide), List.nil_append, next_no _ _ _ _ _ _ _ _ _ hq]
      exact runA_tagged f0 f1 f2 f3 f4 f5 f6 r _ hp'.2 ht hth htn (by omega)
def zA : S29 × Int × Int := (z29, 0, 0)
def rowsA (T : List (S29 × Int × Int)) (i : Nat) : Int := if i = 0 then 0 else (T.getD (i - 1) zA).2.1 + 1
def numA (T : List (S29 × Int × Int)) (i : Nat) : Int := if i = 0 then 0 else (T.getD (i - 1) zA).2.2
theorem tagA_next {T : List (S29 × Int × Int)} (h : TaggedA T) (i : Nat) (hi : i < T.length) :
    (i = 0 → rowsA T (i + 1) = rowsA T i + 1 ∧ numA T (i + 1) = 1) ∧ (0 < i → (SR (T.getD i zA).1 (T.getD (i - 1) zA).1 → rowsA T (i + 1) = rowsA T i) ∧ (¬ SR (T.getD i zA).1 (T.getD (i - 1) zA).1 → rowsA T (i + 1) = rowsA T i + 1) ∧
      (SC (T.getD i zA).1 (T.getD (i - 1) zA).1 → numA T (i + 1) = numA T i + 1) ∧ (¬ SC (T.getD i zA).1 (T.getD (i - 1) zA).1 → numA T (i + 1) = 1)) := by
  rcases h with rfl | ⟨p, r, rfl, hp, hp1, hs⟩
  · simp at hi
  · constructor
    · rintro rfl
      simp [rowsA, numA, hp, hp1]
    · intro h0
      have key : ∀ (r : List (S29 × Int × Int)) (p : S29 × Int × Int), StepsA p r → ∀ j, j + 1 < (p :: r).length → (SR ((p :: r).getD (j + 1) zA).1 ((p :: r).getD j zA).1 → ((p :: r).getD (j + 1) zA).2.1 = ((p :: r).getD j zA).2.1) ∧ (¬ SR ((p :: r).getD (j + 1) zA).1 ((p :: r).getD j zA).1 → ((p :: r).getD (j + 1) zA).2.1 = ((p :: r).getD j zA).2.1 + 1) ∧
          (SC ((p :: r).getD (j + 1) zA).1 ((p :: r).getD j zA).1 → ((p :: r).getD (j + 1) zA).2.2 = ((p :: r).getD j zA).2.2 + 1) ∧ (¬ SC ((p :: r).getD (j + 1) zA).1 ((p :: r).getD j zA).1 → ((p :: r).getD (j + 1) zA).2.2 = 1) := by
        intro r
        induction r with
        | nil => intro p _ j hj; simp at hj
        | cons q r ih =>
          intro p hs j hj
          match j with
          | 0 => exact ⟨hs.1, hs.2.1, hs.2.2.1, hs.2.2.2.1⟩
          | j + 1 => exact ih q hs.2.2.2.2 j (by simpa using hj)
      obtain ⟨j, rfl⟩ : ∃ j, i = j + 1 := ⟨i - 1, by omega⟩
      have := key r p hs j hi
      simp only [rowsA, numA, Nat.add_sub_cancel, if_neg (Nat.succ_ne_zero _)]
      generalize (p :: r).getD (j + 1) zA = u at *
      generalize (p :: r).getD j zA = v at *
      exact ⟨fun h => by rw [this.1 h], fun h => by rw [this.2.1 h], this.2.2.1, this.2.2.2⟩
theorem boundA {T : List (S29 × Int × Int)} (h : TaggedA T) : ∀ i, i ≤ T.length → (0 ≤ rowsA T i ∧ rowsA T i ≤ i) ∧ (0 ≤ numA T i ∧ numA T i ≤ i)
  | 0, _ => by simp [rowsA, numA]
  | i + 1, hi => by
    have ih := boundA h i (by omega)
    have hn := tagA_next h i (by omega)
    by_cases h0 : i = 0
    · have := hn.1 h0; omega
    · have := hn.2 (by omega)
      constructor
      · by_cases e : SR (T.getD i zA).1 (T.getD (i - 1) zA).1
        · have := this.1 e; omega
        · have := this.2.1 e; omega
      · by_cases e : SC (T.getD i zA).1 (T.getD (i - 1) zA).1
        · have := this.2.2.1 e; omega
        · have := this.2.2.2 e; omega
theorem parts_all (f0 : List ByteArray) (f1 f2 : ByteArray) (f3 f4 f5 f6 : Int) (l : List S29) (hl : l.length ≤ 80) (hp : l.Pairwise KL) :
    ∃ T : List (S29 × Int × Int), TaggedA T ∧ svRun f0 f1 f2 f3 f4 f5 f6 sv0 l = T.map Prod.fst ∧ T.length ≤ 80 ∧ Emb (T.map Prod.fst) l ∧ ∀ i, i < T.length → lets f0 f1 f2 f3 f4 f5 f6 (T.getD i zA).1 = true ∧ (f6 = 0 ∨ rowsA T (i + 1) ≤ f6) ∧ (f5 = 0 ∨ numA T (i + 1) ≤ f5) := by
  refine ⟨runA f0 f1 f2 f3 f4 f5 f6 sv0 l, runA_tagged f0 f1 f2 f3 f4 f5 f6 l sv0 hp rfl rfl rfl (by omega), (runA_fst f0 f1 f2 f3 f4 f5 f6 l sv0).symm, ?_, ?_, fun i hi => ?_⟩
  · have h1 := svRun_length f0 f1 f2 f3 f4 f5 f6 l sv0
    rw [← runA_fst, List.length_map] at h1
    omega
  · rw [runA_fst]; exact emb_run f0 f1 f2 f3 f4 f5 f6 l sv0
  · have hm : (runA f0 f1 f2 f3 f4 f5 f6 sv0 l).getD i zA ∈ runA f0 f1 f2 f3 f4 f5 f6 sv0 l := by
      rw [List.getD_eq_getElem?_getD, List.getElem?_eq_getElem hi]; exact List.getElem_mem _
    have := runA_ok f0 f1 f2 f3 f4 f5 f6 l sv0 _ hm
    simp only [rowsA, numA, Nat.add_sub_cancel, if_neg (Nat.succ_ne_zero _)]
    exact ⟨this.1, this.2.1.imp id (fun h => by omega), this.2.2⟩
end Go.Proofs.Ythbgjaboghnpjaa.Pure
