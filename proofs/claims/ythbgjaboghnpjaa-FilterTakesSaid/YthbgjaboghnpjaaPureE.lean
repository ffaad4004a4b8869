/- What was asked for is asked for again: of the sieve alone, in plain Lean. -/
import Derived.Test.YthbgjaboghnpjaaPureD
set_option linter.unusedVariables false
set_option linter.unusedSimpArgs false
namespace Go.Proofs.Ythbgjaboghnpjaa.Pure
open Go.RowKit Go.Proofs.Ythbgjaboghnpjaa.Q Go.Proofs.YthbgjaboghnpjaaW.PrintWords Go.Proofs.YthbgjaboghnpjaaW.PrintLast Go.Proofs.YthbgjaboghnpjaaW.PrintMore

def SR (a b : S29) : Prop := a.f0.toList = b.f0.toList
def SC (a b : S29) : Prop := a.f0.toList = b.f0.toList ∧ a.f1.toList = b.f1.toList ∧ a.f2.toList = b.f2.toList
theorem nlt_antisymm {a b : List UInt8} (h1 : ¬ a < b) (h2 : ¬ b < a) : a = b := List.le_antisymm (List.not_lt.mp h2) (List.not_lt.mp h1)
theorem lt_asymm {a b : List UInt8} (h : a < b) : ¬ b < a := fun h2 => List.lt_irrefl a (List.lt_trans h h2)
theorem KL.row {a b : S29} (h : KL a b) : ¬ b.f0.toList < a.f0.toList := by
  rcases h with h | ⟨h, _⟩
  · exact lt_asymm h
  · rw [h]; exact List.lt_irrefl _
theorem KL.fam {a b : S29} (h : KL a b) (e : a.f0.toList = b.f0.toList) : ¬ b.f1.toList < a.f1.toList := by
  rcases h with h | ⟨_, h | ⟨h, _⟩⟩
  · rw [e] at h; exact absurd h (List.lt_irrefl _)
  · exact lt_asymm h
  · rw [h]; exact List.lt_irrefl _
theorem KL.qual {a b : S29} (h : KL a b) (e : a.f0.toList = b.f0.toList) (e1 : a.f1.toList = b.f1.toList) : ¬ b.f2.toList < a.f2.toList := by
  rcases h with h | ⟨_, h | ⟨_, h⟩⟩
  · rw [e] at h; exact absurd h (List.lt_irrefl _)
  · rw [e1] at h; exact absurd h (List.lt_irrefl _)
  · exact h
/-- what lies between two cells of a row lies in that row -/
theorem row_between {a e d : S29} (h1 : KL a e) (h2 : KL e d) (h : SR d a) : SR d e := by
  unfold SR at *
  have r1 := h1.row
  have r2 := h2.row
  rw [h] at r2
  rw [h]
  exact nlt_antisymm r2 r1
theorem col_between {a e d : S29} (h1 : KL a e) (h2 : KL e d) (h : SC d a) : SC d e := by
  have hr : SR d e := row_between h1 h2 h.1
  have h0 := h.1
  have e0 : a.f0.toList = e.f0.toList := h0.symm.trans hr
  have g1 := h1.fam e0
  have g2 := h2.fam hr.symm
  rw [h.2.1] at g2
  have e1 : a.f1.toList = e.f1.toList := nlt_antisymm g2 g1
  have k1 := h1.qual e0 e1
  have k2 := h2.qual hr.symm (e1.symm.trans h.2.1.symm)
  rw [h.2.2] at k2
  exact ⟨hr, h.2.1.trans e1, h.2.2.trans (nlt_antisymm k2 k1)⟩

def tn (s : Sv) (c : S29) : Int := turnN s.c.f0 s.c.f1 s.c.f2 s.n c.f0 c.f1 c.f2
def trows (s : Sv) (c : S29) : Int := turnRows s.c.f0 s.some s.rows s.hit c.f0
def thit (s : Sv) (c : S29) : Bool := turnHit s.c.f0 s.some s.hit c.f0
def lets (f0 : List ByteArray) (f1 f2 : ByteArray) (f3 f4 f5 f6 : Int) (c : S29) : Bool := letsB f0 f1 f2 f3 f4 c.f1 c.f2 c.f3
def want (f5 f6 n rows : Int) : Bool := (decide (f5 = 0) || decide (n < f5)) && !(!(decide (f6 = 0)) && decide (rows ≥ f6))
theorem take_eq (f0 : List ByteArray) (f1 f2 : ByteArray) (f3 f4 f5 f6 : Int) (s : Sv) (c : S29) : svTake f0 f1 f2 f3 f4 f5 f6 s c = (lets f0 f1 f2 f3 f4 f5 f6 c && want f5 f6 (tn s c) (trows s c)) := rfl
theorem next_yes (f0 : List ByteArray) (f1 f2 : ByteArray) (f3 f4 f5 f6 : Int) (s : Sv) (c : S29) (h : svTake f0 f1 f2 f3 f4 f5 f6 s c = true) : svNext f0 f1 f2 f3 f4 f5 f6 s c = ⟨c, true, wrap64 (tn s c + 1), trows s c, true⟩ := by
  unfold svTake at h
  unfold svNext
  rw [if_pos h, h]
  rfl
theorem next_no (f0 : List ByteArray) (f1 f2 : ByteArray) (f3 f4 f5 f6 : Int) (s : Sv) (c : S29) (h : svTake f0 f1 f2 f3 f4 f5 f6 s c = false) : svNext f0 f1 f2 f3 f4 f5 f6 s c = ⟨c, true, tn s c, trows s c, thit s c⟩ := by
  unfold svTake at h
  unfold svNext
  rw [if_neg (by rw [h]; decide), h]
  rfl
theorem tn_pos {s : Sv} {c : S29} (h : SC c s.c) : tn s c = s.n := if_pos h
theorem tn_neg {s : Sv} {c : S29} (h : ¬ SC c s.c) : tn s c = 0 := if_neg h
theorem trows_same {s : Sv} {c : S29} (h : SR c s.c) : trows s c = s.rows := if_neg (fun x => x.2.1 h)
theorem trows_other {s : Sv} {c : S29} (h : ¬ SR c s.c) (hs : s.some = true) : trows s c = if s.hit = true then wrap64 (s.rows + 1) else s.rows := by
  unfold trows turnRows
  by_cases hh : s.hit = true
  · rw [if_pos ⟨hs, h, hh⟩, if_pos hh]
  · rw [if_neg (fun x => hh x.2.2), if_neg hh]
theorem trows_first {s : Sv} {c : S29} (hs : s.some = false) : trows s c = s.rows := if_neg (fun x => by rw [hs] at x; exact absurd x.1 (by decide))
theorem thit_same {s : Sv} {c : S29} (h : SR c s.c) : thit s c = s.hit := if_neg (fun x => x.2 h)
theorem thit_other {s : Sv} {c : S29} (h : ¬ SR c s.c) (hs : s.some = true) : thit s c = false := if_pos ⟨hs, h⟩
theorem thit_first {s : Sv} {c : S29} (hs : s.some = false) : thit s c = s.hit := if_neg (fun x => by rw [hs] at x; exact absurd x.1 (by decide))

/-- two sieves that say the same of what comes -/
def Agree (s t : Sv) (l : List S29) : Prop := ∀ d ∈ l, tn s d = tn t d ∧ trows s d = trows t d ∧ thit s d = thit t d
/-- the sieve is new, or its cell lies ahead of what comes -/
def Side (t : Sv) (l : List S29) : Prop := (t.n = 0 ∧ t.some = false ∧ t.hit = false) ∨ (t.some = true ∧ ∀ d ∈ l, KL t.c d)
theorem tn_new {t : Sv} {d : S29} (h : t.n = 0) : tn t d = 0 := by
  by_cases hc : SC d t.c
  · rw [tn_pos hc, h]
  · exact tn_neg hc
/-- a cell that is passed by -/
theorem agree_skip (s t : Sv) (e : S29) (r : List S29) (hp : (e :: r).Pairwise KL) (ha : Agree s t (e :: r)) (hs : Side t (e :: r)) : Agree ⟨e, true, tn s e, trows s e, thit s e⟩ t r := by
  intro d hd
  obtain ⟨a1, a2, a3⟩ := ha e List.mem_cons_self
  have hed : KL e d := (List.pairwise_cons.mp hp).1 d hd
  have hn : tn ⟨e, true, tn s e, trows s e, thit s e⟩ d = tn t d := by
    by_cases hc : SC d e
    · rw [tn_pos (s := ⟨e, true, tn s e, trows s e, thit s e⟩) hc]
      show tn s e = _
      rw [a1]
      by_cases h2 : SC e t.c
      · rw [tn_pos h2, tn_pos ⟨hc.1.trans h2.1, hc.2.1.trans h2.2.1, hc.2.2.trans h2.2.2⟩]
      · rw [tn_neg h2, tn_neg (fun h3 => h2 ⟨hc.1.symm.trans h3.1, hc.2.1.symm.trans h3.2.1, hc.2.2.symm.trans h3.2.2⟩)]
    · rw [tn_neg (s := ⟨e, true, tn s e, trows s e, thit s e⟩) hc]
      rcases hs with ⟨h1, _⟩ | ⟨_, hk⟩
      · exact (tn_new h1).symm
      · exact (tn_neg (fun h3 => hc (col_between (hk e List.mem_cons_self) hed h3))).symm
  by_cases hc : SR d e
  · refine ⟨hn, ?_, ?_⟩
    · rw [trows_same (s := ⟨e, true, tn s e, trows s e, thit s e⟩) hc]
      show trows s e = _
      rw [a2]
      unfold trows turnRows
      rw [show d.f0.toList = e.f0.toList from hc]
    · rw [thit_same (s := ⟨e, true, tn s e, trows s e, thit s e⟩) hc]
      show thit s e = _
      rw [a3]
      unfold thit turnHit
      rw [show d.f0.toList = e.f0.toList from hc]
  · rw [trows_other (s := ⟨e, true, tn s e, trows s e, thit s e⟩) hc rfl, thit_other (s := ⟨e, true, tn s e, trows s e, thit s e⟩) hc rfl]
    show _ ∧ (if thit s e = true then wrap64 (trows s e + 1) else trows s e) = _ ∧ _
    rw [a2, a3]
    rcases hs with ⟨_, h1, h2⟩ | ⟨h1, hk⟩
    · rw [trows_first h1, trows_first h1, thit_first h1, thit_first h1, h2]
      exact ⟨hn, rfl, rfl⟩
    · have hdt : ¬ SR d t.c := fun h => hc (row_between (hk e List.mem_cons_self) hed h)
      rw [trows_other hdt h1, thit_other hdt h1]
      by_cases het : SR e t.c
      · rw [trows_same het, thit_same het]
        exact ⟨hn, rfl, rfl⟩
      · rw [trows_other het h1, thit_other het h1]
        exact ⟨hn, rfl, rfl⟩
theorem side_tail {t : Sv} {e : S29} {r : List S29} (h : Side t (e :: r)) : Side t r := by
  rcases h with h | ⟨h1, h2⟩
  · exact .inl h
  · exact .inr ⟨h1, fun d hd => h2 d (List.mem_cons_of_mem _ hd)⟩
/-- What was asked for is asked for again. -/
theorem run_again (f0 : List ByteArray) (f1 f2 : ByteArray) (f3 f4 f5 f6 : Int) : ∀ (l : List S29) (s t : Sv), l.Pairwise KL → Agree s t l → Side t l → svRun f0 f1 f2 f3 f4 f5 f6 t (svRun f0 f1 f2 f3 f4 f5 f6 s l) = svRun f0 f1 f2 f3 f4 f5 f6 s l
  | [], _, _, _, _, _ => rfl
  | e :: r, s, t, hp, ha, hs => by
    have ht : svTake f0 f1 f2 f3 f4 f5 f6 s e = svTake f0 f1 f2 f3 f4 f5 f6 t e := by
      obtain ⟨a1, a2, _⟩ := ha e List.mem_cons_self
      rw [take_eq, take_eq, a1, a2]
    rw [svRun]
    cases hq : svTake f0 f1 f2 f3 f4 f5 f6 s e with
    | true =>
      have hq2 := ht.symm.trans hq
      obtain ⟨a1, a2, _⟩ := ha e List.mem_cons_self
      have hn : svNext f0 f1 f2 f3 f4 f5 f6 t e = svNext f0 f1 f2 f3 f4 f5 f6 s e := by rw [next_yes _ _ _ _ _ _ _ _ _ hq2, next_yes _ _ _ _ _ _ _ _ _ hq, a1, a2]
      have hsd : Side (svNext f0 f1 f2 f3 f4 f5 f6 s e) r := by
        rw [next_yes _ _ _ _ _ _ _ _ _ hq]
        exact .inr ⟨rfl, fun d hd => (List.pairwise_cons.mp hp).1 d hd⟩
      rw [if_pos rfl, List.singleton_append, svRun, hq2, if_pos rfl, hn, run_again f0 f1 f2 f3 f4 f5 f6 r _ _ (List.pairwise_cons.mp hp).2 (fun _ _ => ⟨rfl, rfl, rfl⟩) hsd]
      rfl
    | false =>
      rw [if_neg (by decide), List.nil_append, next_no _ _ _ _ _ _ _ _ _ hq]
      exact run_again f0 f1 f2 f3 f4 f5 f6 r _ _ (List.pairwise_cons.mp hp).2 (agree_skip s t e r hp ha hs) (side_tail hs)
/-- Without limits all that is let is taken. -/
theorem run_all (f0 : List ByteArray) (f1 f2 : ByteArray) (f3 f4 : Int) : ∀ (l : List S29) (s : Sv), svRun f0 f1 f2 f3 f4 0 0 s l = l.filter (lets f0 f1 f2 f3 f4 0 0)
  | [], _ => rfl
  | e :: r, s => by
    have h : svTake f0 f1 f2 f3 f4 0 0 s e = lets f0 f1 f2 f3 f4 0 0 e := by
      rw [take_eq]
      unfold want
      simp
    rw [svRun, h, run_all f0 f1 f2 f3 f4 r, List.filter_cons]
    split <;> rfl
end Go.Proofs.Ythbgjaboghnpjaa.Pure
