/- The document's Sort: what it gives lies in the order of row, family and qualifier; on the printed functions alone. -/
import Derived.Test.YthbgjaboghnpjaaPureB
set_option linter.unusedVariables false
set_option linter.unusedSimpArgs false
namespace Go.Proofs.Ythbgjaboghnpjaa.Pure
open Go.RowKit Go.Proofs.Ythbgjaboghnpjaa.Q Go.Proofs.YthbgjaboghnpjaaW.PrintWords Go.Proofs.YthbgjaboghnpjaaW.PrintLast Go.Proofs.YthbgjaboghnpjaaW.PrintMore

/-! ### a right cell of a family has no qualifier -/
def Rq (c : S29) : Prop := c.f4 = 4 → c.f2.toList = []
def HasR (c : S29) (g : Nat → Option Bool) : Prop := ∃ r, Ev g r ∧ (r = true → Rq c)
theorem HasR.no (c : S29) : HasR c (fun _ => some false) := ⟨false, Ev.now _, fun h => by cases h⟩
theorem HasR.of {c : S29} {g : Nat → Option Bool} (h : Has g) (hc : Rq c) : HasR c g := h.elim fun r e => ⟨r, e, fun _ => hc⟩
theorem HasR.step {c : S29} {g f : Nat → Option Bool} (h : ∀ k, g (k + 1) = f k) (k : HasR c f) : HasR c g := k.elim fun r e => ⟨r, Ev.step h e.1, e.2⟩
theorem HasR.congr {c : S29} {g f : Nat → Option Bool} (h : ∀ k, g k = f k) (k : HasR c f) : HasR c g := k.elim fun r e => ⟨r, Ev.congr h e.1, e.2⟩
theorem HasR.ite {c : S29} {p : Prop} [Decidable p] {g f : Nat → Option Bool} (h1 : p → HasR c g) (h2 : ¬ p → HasR c f) : HasR c (fun k => if p then g k else f k) := by
  by_cases h : p
  · exact HasR.congr (fun k => if_pos h) (h1 h)
  · exact HasR.congr (fun k => if_neg h) (h2 h)
theorem right_j1 (c : S29) (b : Bool) (hb : b = true → c.f4 ≠ 4) : HasR c (fun k => joistref03_Right.j1 k c.f4 b c.f0 c.f1 c.f2 c.f3 c.f4 c.f5.f0 c.f5.f1 c.f5.f2) := by
  refine HasR.step (fun k => by simp only [joistref03_Right.j1]; rfl) ?_
  refine HasR.ite (fun h => HasR.of (Has.now _) (fun h4 => absurd h4 (hb h))) fun _ => HasR.ite (fun _ => HasR.ite (fun _ => ⟨_, Ev.now _, fun h _ => by simpa using h⟩) fun _ => HasR.no c) fun _ => HasR.no c
theorem right_j0 (c : S29) (b : Bool) : HasR c (fun k => joistref03_Right.j0 k b c.f0 c.f1 c.f2 c.f3 c.f4 c.f5.f0 c.f5.f1 c.f5.f2) := by
  refine HasR.step (fun k => by simp only [joistref03_Right.j0]; rfl) ?_
  refine HasR.ite (fun _ => HasR.no c) fun _ => HasR.ite (fun h => HasR.of (Has.bind_id (Right02 _ _ _)) (fun h4 => by omega)) fun _ => HasR.ite (fun h => right_j1 c _ (fun _ => by omega)) fun _ => right_j1 c _ (fun h => ?_)
  have := beq_iff_eq.mp h
  omega
theorem Right03 (c : S29) (hc : Small c) : HasR c (fun k => joistref03_Right.f k c.f0 c.f1 c.f2 c.f3 c.f4 c.f5.f0 c.f5.f1 c.f5.f2) := by
  unfold joistref03_Right.f
  refine HasR.ite (fun _ => right_j0 c _) fun _ => HasR.ite (fun _ => right_j0 c _) fun _ => ?_
  obtain ⟨b, hb⟩ : Has (fun k => joistref03_Name.f k c.f1) := name_loop c.f1 (by have := hc.2.1; omega) c.f1.size 0 (by omega)
  obtain ⟨r, e, p⟩ : HasR c (fun k => if b = true then (if (c.f2.size : Int) > 12 then (joistref03_Right.j0 k true c.f0 c.f1 c.f2 c.f3 c.f4 c.f5.f0 c.f5.f1 c.f5.f2) else (if c.f3 < 0 then (joistref03_Right.j0 k true c.f0 c.f1 c.f2 c.f3 c.f4 c.f5.f0 c.f5.f1 c.f5.f2) else (joistref03_Right.j0 k (decide (c.f3 > 1099511627776)) c.f0 c.f1 c.f2 c.f3 c.f4 c.f5.f0 c.f5.f1 c.f5.f2))) else (joistref03_Right.j0 k true c.f0 c.f1 c.f2 c.f3 c.f4 c.f5.f0 c.f5.f1 c.f5.f2)) :=
    HasR.ite (fun _ => HasR.ite (fun _ => right_j0 c _) fun _ => HasR.ite (fun _ => right_j0 c _) fun _ => right_j0 c _) fun _ => right_j0 c _
  exact ⟨r, Ev.bind hb e, p⟩

/-! ### the order of row, family and qualifier -/
def KL (a b : S29) : Prop := a.f0.toList < b.f0.toList ∨ (a.f0.toList = b.f0.toList ∧ (a.f1.toList < b.f1.toList ∨ (a.f1.toList = b.f1.toList ∧ ¬ b.f2.toList < a.f2.toList)))
theorem nlt_trans {a b c : List UInt8} (h1 : ¬ b < a) (h2 : ¬ c < b) : ¬ c < a := fun h => by
  by_cases h3 : a < b
  · exact h2 (List.lt_trans h h3)
  · have : a = b := List.le_antisymm (List.not_lt.mp h1) (List.not_lt.mp h3)
    exact h2 (this ▸ h)
theorem KL.trans {a b c : S29} (h1 : KL a b) (h2 : KL b c) : KL a c := by
  unfold KL at *
  rcases h1 with h1 | ⟨e1, h1⟩
  · rcases h2 with h2 | ⟨e2, h2⟩
    · exact .inl (List.lt_trans h1 h2)
    · exact .inl (e2 ▸ h1)
  · rcases h2 with h2 | ⟨e2, h2⟩
    · exact .inl (e1 ▸ h2)
    · refine .inr ⟨e1.trans e2, ?_⟩
      rcases h1 with h1 | ⟨f1, h1⟩
      · rcases h2 with h2 | ⟨f2, h2⟩
        · exact .inl (List.lt_trans h1 h2)
        · exact .inl (f2 ▸ h1)
      · rcases h2 with h2 | ⟨f2, h2⟩
        · exact .inl (f1 ▸ h2)
        · exact .inr ⟨f1.trans f2, nlt_trans h1 h2⟩
theorem not_lt_nil (a : List UInt8) : ¬ a < [] := by cases a <;> simp
theorem ordC_le {a b : S29} (ha : Rq a) (h : ordC a b ≤ 0) : KL a b := by
  unfold ordC ordL firstNZ at h
  unfold KL
  by_cases h0 : cmpT a.f0.toList b.f0.toList = 0
  · refine .inr ⟨cmpT_zero.mp h0, ?_⟩
    rw [if_pos h0] at h
    unfold firstNZ at h
    by_cases h1 : cmpT a.f1.toList b.f1.toList = 0
    · refine .inr ⟨cmpT_zero.mp h1, ?_⟩
      rw [if_pos h1] at h
      unfold firstNZ at h
      by_cases h2 : cmpI (fam a) (fam b) = 0
      · rw [if_pos h2] at h
        unfold firstNZ at h
        by_cases h3 : cmpT a.f2.toList b.f2.toList = 0
        · rw [cmpT_zero.mp h3]
          exact List.lt_irrefl _
        · rw [if_neg h3] at h
          intro h4
          have := cmpT_gt.mpr h4
          omega
      · rw [if_neg h2] at h
        unfold cmpI fam at h h2
        by_cases h4 : a.f4 = 4
        · rw [ha h4]
          exact not_lt_nil _
        · exfalso
          rw [if_neg h4] at h h2
          by_cases h5 : b.f4 = 4
          · rw [if_pos h5] at h h2
            revert h
            decide
          · rw [if_neg h5] at h2
            exact h2 (by decide)
    · rw [if_neg h1] at h
      exact .inl (cmpT_lt.mp (by omega))
  · rw [if_neg h0] at h
    exact .inl (cmpT_lt.mp (by omega))
theorem ordC_gt {a b : S29} (hb : Rq b) (h : ¬ ordC a b ≤ 0) : KL b a := by
  unfold ordC ordL firstNZ at h
  unfold KL
  by_cases h0 : cmpT a.f0.toList b.f0.toList = 0
  · refine .inr ⟨(cmpT_zero.mp h0).symm, ?_⟩
    rw [if_pos h0] at h
    unfold firstNZ at h
    by_cases h1 : cmpT a.f1.toList b.f1.toList = 0
    · refine .inr ⟨(cmpT_zero.mp h1).symm, ?_⟩
      rw [if_pos h1] at h
      unfold firstNZ at h
      by_cases h2 : cmpI (fam a) (fam b) = 0
      · rw [if_pos h2] at h
        unfold firstNZ at h
        by_cases h3 : cmpT a.f2.toList b.f2.toList = 0
        · rw [cmpT_zero.mp h3]
          exact List.lt_irrefl _
        · rw [if_neg h3] at h
          intro h4
          have := cmpT_lt.mpr h4
          omega
      · rw [if_neg h2] at h
        unfold cmpI fam at h h2
        by_cases h4 : b.f4 = 4
        · rw [hb h4]
          exact not_lt_nil _
        · exfalso
          rw [if_neg h4] at h h2
          by_cases h5 : a.f4 = 4
          · rw [if_pos h5] at h h2
            revert h
            decide
          · rw [if_neg h5] at h2
            exact h2 (by decide)
    · rw [if_neg h1] at h
      exact .inl (cmpT_gt.mp (by omega))
  · rw [if_neg h0] at h
    exact .inl (cmpT_gt.mp (by omega))
/-! ### one cell is put in -/
def insGo (x : S29) : Bool → List S29 → List S29
  | d, [] => if d = true then [] else [x]
  | d, y :: ys => (if (!d && decide (ordC x y ≤ 0)) = true then [x] else []) ++ ((if ordC x y = 0 then [] else [y]) ++ insGo x (d || decide (ordC x y ≤ 0)) ys)
theorem ins_sub (x : S29) : ∀ (ys : List S29) (d : Bool) (z : S29), z ∈ insGo x d ys → z = x ∨ z ∈ ys
  | [], d, z, h => by
    cases d <;> simp [insGo] at h
    exact .inl h
  | y :: ys, d, z, h => by
    rw [insGo, List.mem_append, List.mem_append] at h
    rcases h with h | h | h
    · split at h
      · exact .inl (by simpa using h)
      · cases h
    · split at h
      · cases h
      · exact .inr (by rw [List.mem_singleton.mp h]; exact List.mem_cons_self)
    · rcases ins_sub x ys _ z h with h | h
      · exact .inl h
      · exact .inr (List.mem_cons_of_mem _ h)
theorem ins_true (x : S29) : ∀ (ys : List S29), (insGo x true ys).Sublist ys
  | [] => by simp [insGo]
  | y :: ys => by
    rw [insGo]
    simp only [Bool.not_true, Bool.false_and, Bool.false_eq_true, if_false, List.nil_append, Bool.true_or]
    split
    · exact List.Sublist.cons _ (ins_true x ys)
    · exact List.Sublist.cons_cons _ (ins_true x ys)
theorem ins_pair (x : S29) (hx : Rq x) : ∀ (ys : List S29), (∀ y ∈ ys, Rq y) → ys.Pairwise KL → (insGo x false ys).Pairwise KL
  | [], _, _ => by simp [insGo]
  | y :: ys, hr, hp => by
    have hp' := List.pairwise_cons.mp hp
    rw [insGo]
    by_cases h : ordC x y ≤ 0
    · have hxy := ordC_le hx h
      have hs := ins_true x ys
      have hall : ∀ z ∈ insGo x true ys, KL y z := fun z hz => hp'.1 z (hs.subset hz)
      simp only [h, Bool.not_false, Bool.true_and, decide_true, if_true, Bool.or_true, List.singleton_append]
      refine List.pairwise_cons.mpr ⟨?_, ?_⟩
      · intro z hz
        rw [List.mem_append] at hz
        rcases hz with hz | hz
        · split at hz
          · cases hz
          · rw [List.mem_singleton.mp hz]; exact hxy
        · exact hxy.trans (hall z hz)
      · split
        · exact hp'.2.sublist hs
        · exact List.pairwise_cons.mpr ⟨hall, hp'.2.sublist hs⟩
    · have hyx := ordC_gt (hr y List.mem_cons_self) h
      have hne : ordC x y ≠ 0 := fun e => h (by omega)
      simp only [h, hne, Bool.not_false, Bool.true_and, decide_false, Bool.false_eq_true, if_false, Bool.or_false, List.nil_append, List.singleton_append]
      refine List.pairwise_cons.mpr ⟨fun z hz => ?_, ins_pair x hx ys (fun z hz => hr z (List.mem_cons_of_mem _ hz)) hp'.2⟩
      rcases ins_sub x ys false z hz with h1 | h1
      · exact h1 ▸ hyx
      · exact hp'.1 z h1
theorem ins_length (x : S29) : ∀ (ys : List S29) (d : Bool), (insGo x d ys).length ≤ ys.length + (if d = true then 0 else 1)
  | [], d => by cases d <;> simp [insGo]
  | y :: ys, d => by
    have ih := ins_length x ys (d || decide (ordC x y ≤ 0))
    rw [insGo, List.length_append, List.length_append, List.length_cons]
    cases d <;> by_cases h : ordC x y ≤ 0 <;> by_cases h2 : ordC x y = 0 <;> simp [h, h2] at ih ⊢ <;> omega
end Go.Proofs.Ythbgjaboghnpjaa.Pure
