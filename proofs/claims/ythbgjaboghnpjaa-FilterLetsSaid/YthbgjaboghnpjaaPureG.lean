/- What the document says of a filter, in plain Lean; on the printed functions alone. -/
import Derived.Test.YthbgjaboghnpjaaPureF
set_option linter.unusedVariables false
set_option linter.unusedSimpArgs false
namespace Go.Proofs.Ythbgjaboghnpjaa.Pure
open Go.RowKit Go.Proofs.Ythbgjaboghnpjaa.Q Go.Proofs.YthbgjaboghnpjaaW.PrintWords Go.Proofs.YthbgjaboghnpjaaW.PrintLast Go.Proofs.YthbgjaboghnpjaaW.PrintMore

theorem LongRequest (f0 : List ByteArray) (f1 f2 : ByteArray) (f3 f4 f5 f6 : Int) : Say false (SmallF f0 f1 f2) (fun k => joistref00_LongRequest.f k 0 (⟨#[]⟩ : ByteArray) (⟨#[]⟩ : ByteArray) [] (⟨#[]⟩ : ByteArray) (⟨#[]⟩ : ByteArray) 0 0 (⟨#[]⟩ : ByteArray) f0 f1 f2 f3 f4 f5 f6) := by
  have J : ∀ b : Bool, (b = false → f0.length ≤ 20 ∧ f1.size ≤ 100 ∧ f2.size ≤ 100) → Say false (SmallF f0 f1 f2) (fun k => joistref00_LongRequest.j0 k b 0 (⟨#[]⟩ : ByteArray) (⟨#[]⟩ : ByteArray) [] (⟨#[]⟩ : ByteArray) (⟨#[]⟩ : ByteArray) 0 0 (⟨#[]⟩ : ByteArray) f0 f1 f2 f3 f4 f5 f6) := by
    intro b hb
    refine Say.step (fun k => by simp only [joistref00_LongRequest.j0]; rfl) ?_
    refine Say.ite (fun _ => Say.not _ false) fun h => ?_
    have hb2 := hb (by simpa using h)
    have := fams_loop f0 hb2.1 (⟨#[]⟩ : ByteArray) (⟨#[]⟩ : ByteArray) (⟨#[]⟩ : ByteArray) (⟨#[]⟩ : ByteArray) (⟨#[]⟩ : ByteArray) f1 f2 0 0 0 f3 f4 f5 f6 f0.length 0 (by omega)
    rw [List.drop_zero] at this
    exact this.imp fun h => ⟨hb2.1, hb2.2.1, hb2.2.2, h⟩
  have T := J true (fun h => by cases h)
  unfold joistref00_LongRequest.f
  refine Say.ite (fun _ => T) fun _ => Say.ite (fun _ => T) fun _ => Say.ite (fun _ => T) fun _ => Say.ite (fun _ => T) fun _ => Say.ite (fun _ => T) fun _ => Say.ite (fun _ => T) fun _ => Say.ite (fun _ => T) fun h1 => Say.ite (fun _ => T) fun h2 => ?_
  refine J _ fun h => ?_
  have := of_decide_eq_false h
  exact ⟨by omega, by omega, by omega⟩
theorem Long (f0 : List ByteArray) (f1 f2 : ByteArray) (f3 f4 f5 f6 : Int) (l : List S29) : Say false (SmallF f0 f1 f2 ∧ l.length ≤ 80 ∧ ∀ c ∈ l, Small c) (fun k => joistlaw13_long.f k f0 f1 f2 f3 f4 f5 f6 l) := by
  unfold joistlaw13_long.f
  refine Say.bind false (LongRequest f0 f1 f2 f3 f4 f5 f6) (fun h => ?_) (Say.congr (fun k => if_pos rfl) (Say.not _ false))
  refine Say.congr (fun k => if_neg (by decide)) ?_
  obtain ⟨r, e, i⟩ := LongCells l
  exact ⟨r, Ev.bind e (Ev.now r), fun hr => ⟨h, i hr⟩⟩

/-! ### names -/
theorem isOther_no (c : Int) : isOther c = false ↔ (97 ≤ c ∧ c ≤ 122) ∨ (48 ≤ c ∧ c ≤ 57) := by
  unfold isOther
  rw [Bool.and_eq_false_iff, Bool.or_eq_false_iff, Bool.or_eq_false_iff]
  simp only [decide_eq_false_iff_not]
  omega
/-! ### is a cell let? -/
theorem lets_loop (f0 : List ByteArray) (f1 f2 : ByteArray) (f3 f4 f5 f6 : Int) (hf : SmallF f0 f1 f2) (c : S29) (hc : Small c) : ∀ (m i : Nat) (b : Bool), i + m = f0.length → Ev (fun k => joistref13_Lets.l0 k b (i : Int) f0 f1 f2 f3 f4 f5 f6 c.f0 c.f1 c.f2 c.f3 c.f4 c.f5.f0 c.f5.f1 c.f5.f2) ((b || (f0.drop i).any (fun y => c.f1.toList == y.toList)) && (!(Op.bytesLess c.f2.toList f1.toList) && ((f2.toList.isEmpty || Op.bytesLess c.f2.toList f2.toList) && (decide (c.f3 ≥ f3) && (decide (f4 = 0) || decide (c.f3 < f4))))))
  | 0, i, b, hi => by
    rw [List.drop_eq_nil_iff.mpr (by omega), List.any_nil, Bool.or_false]
    have hw := hf.1
    have tail : Ev (fun _ => if c.f3 ≥ f3 then (if f4 = 0 then some true else some (decide (c.f3 < f4))) else some false) (decide (c.f3 ≥ f3) && (decide (f4 = 0) || decide (c.f3 < f4))) := by
      by_cases h1 : c.f3 ≥ f3 <;> by_cases h2 : f4 = 0 <;> simp only [h1, h2, if_true, if_false, decide_true, decide_false, Bool.true_and, Bool.false_and, Bool.true_or, Bool.false_or] <;> exact Ev.now _
    cases b with
    | false =>
      refine Ev.step (fun k => by simp only [joistref13_Lets.l0]; rw [if_neg (by omega), if_neg (by decide)]) ?_
      exact Ev.now _
    | true =>
      refine Ev.step (fun k => by simp only [joistref13_Lets.l0]; rw [if_neg (by omega), if_pos trivial]) ?_
      refine Ev.bind (Texts c.f2 f1 (by have := hc.2.2; omega)) ?_
      rw [less_lt, less_lt, Bool.true_and]
      by_cases h1 : c.f2.toList < f1.toList
      · have : ¬ cmpT c.f2.toList f1.toList ≥ 0 := fun h => by have := cmpT_lt.mpr h1; omega
        refine Ev.congr (fun k => if_neg this) ?_
        rw [decide_eq_true h1]
        exact Ev.now _
      · have : cmpT c.f2.toList f1.toList ≥ 0 := by
          by_cases h2 : cmpT c.f2.toList f1.toList < 0
          · exact absurd (cmpT_lt.mp h2) h1
          · omega
        refine Ev.congr (fun k => if_pos this) ?_
        rw [decide_eq_false h1, Bool.not_false, Bool.true_and]
        by_cases h2 : f2.toList = []
        · refine Ev.congr (fun k => if_pos h2) ?_
          rw [h2]
          simpa using tail
        · refine Ev.congr (fun k => if_neg h2) ?_
          have he : f2.toList.isEmpty = false := by cases h : f2.toList with | nil => exact absurd h h2 | cons a b => rfl
          rw [he, Bool.false_or]
          refine Ev.bind (Texts c.f2 f2 (by have := hc.2.2; omega)) ?_
          by_cases h3 : c.f2.toList < f2.toList
          · refine Ev.congr (fun k => if_pos (cmpT_lt.mpr h3)) ?_
            rw [decide_eq_true h3, Bool.true_and]
            exact tail
          · refine Ev.congr (fun k => if_neg (fun h => h3 (cmpT_lt.mp h))) ?_
            rw [decide_eq_false h3, Bool.false_and]
            exact Ev.now _
  | m + 1, i, b, hi => by
    have hi1 : i < f0.length := by omega
    have hw := hf.1
    rw [List.drop_eq_getElem_cons hi1, List.any_cons]
    cases b with
    | true =>
      refine Ev.step (fun k => by simp only [joistref13_Lets.l0]; rw [if_pos (by omega), if_pos trivial, wrap_one i (by omega)]) ?_
      have := lets_loop f0 f1 f2 f3 f4 f5 f6 hf c hc m (i + 1) true (by omega)
      simpa only [Bool.true_or] using this
    | false =>
      refine Ev.step (fun k => by simp only [joistref13_Lets.l0]; rw [if_pos (by omega), if_neg (by decide), if_pos (by omega), rdB_at f0 i hi1, wrap_one i (by omega)]) ?_
      have := lets_loop f0 f1 f2 f3 f4 f5 f6 hf c hc m (i + 1) (f0[i].toList == c.f1.toList) (by omega)
      rw [show (f0[i].toList == c.f1.toList) = (c.f1.toList == f0[i].toList) from Bool.beq_comm] at this ⊢
      simpa only [Bool.false_or] using this
theorem Lets (f0 : List ByteArray) (f1 f2 : ByteArray) (f3 f4 f5 f6 : Int) (hf : SmallF f0 f1 f2) (c : S29) (hc : Small c) : Ev (fun k => joistref13_Lets.f k f0 f1 f2 f3 f4 f5 f6 c.f0 c.f1 c.f2 c.f3 c.f4 c.f5.f0 c.f5.f1 c.f5.f2) (lets f0 f1 f2 f3 f4 f5 f6 c) := by
  have h := lets_loop f0 f1 f2 f3 f4 f5 f6 hf c hc f0.length 0 ((f0.length : Int) == 0) (by omega)
  rw [List.drop_zero] at h
  have e : ((f0.length : Int) == 0) = f0.isEmpty := by
    cases f0 with
    | nil => rfl
    | cons a b => simp; omega
  rw [e] at h
  unfold joistref13_Lets.f
  rw [e]
  exact h
/-! ### the same cells -/
theorem same_loop (l : List S29) (hl : l.length ≤ 1000) : ∀ (m i : Nat), i + m = l.length → Ev (fun k => joistref00_SameCells.l0 k l l (i : Int)) true
  | 0, i, hi => Ev.step (fun k => by simp only [joistref00_SameCells.l0]; rw [if_neg (by omega)]) (Ev.now _)
  | m + 1, i, hi => by
    refine Ev.step (fun k => by simp only [joistref00_SameCells.l0]; rw [if_pos (by omega), if_pos (by omega), if_pos (by omega), if_neg (by simp), wrap_one i (by omega)]) ?_
    exact same_loop l hl m (i + 1) (by omega)
theorem Same (l : List S29) (hl : l.length ≤ 1000) : Ev (fun k => joistref00_SameCells.f k l l) true := by
  refine Ev.congr (fun k => by unfold joistref00_SameCells.f; rw [if_pos rfl]) ?_
  exact same_loop l hl l.length 0 (by omega)
end Go.Proofs.Ythbgjaboghnpjaa.Pure
