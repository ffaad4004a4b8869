/- What is too long, and what the document says of a filter, in plain Lean; on the printed functions alone. -/
import Derived.Test.YthbgjaboghnpjaaPureE
set_option linter.unusedVariables false
set_option linter.unusedSimpArgs false
namespace Go.Proofs.Ythbgjaboghnpjaa.Pure
open Go.RowKit Go.Proofs.Ythbgjaboghnpjaa.Q Go.Proofs.YthbgjaboghnpjaaW.PrintWords Go.Proofs.YthbgjaboghnpjaaW.PrintLast Go.Proofs.YthbgjaboghnpjaaW.PrintMore

/-- it says something; and if it says b, then p -/
def Say (b : Bool) (p : Prop) (g : Nat → Option Bool) : Prop := ∃ r, Ev g r ∧ (r = b → p)
theorem Say.not (p : Prop) (b : Bool) : Say b p (fun _ => some (!b)) := ⟨_, Ev.now _, fun h => by cases b <;> cases h⟩
theorem Say.yes {p : Prop} (b : Bool) (c : Bool) (h : p) : Say b p (fun _ => some c) := ⟨_, Ev.now _, fun _ => h⟩
theorem Say.step {b : Bool} {p : Prop} {g f : Nat → Option Bool} (h : ∀ k, g (k + 1) = f k) (k : Say b p f) : Say b p g := k.elim fun r e => ⟨r, Ev.step h e.1, e.2⟩
theorem Say.congr {b : Bool} {p : Prop} {g f : Nat → Option Bool} (h : ∀ k, g k = f k) (k : Say b p f) : Say b p g := k.elim fun r e => ⟨r, Ev.congr h e.1, e.2⟩
theorem Say.ite {b : Bool} {q p : Prop} [Decidable q] {g f : Nat → Option Bool} (h1 : q → Say b p g) (h2 : ¬ q → Say b p f) : Say b p (fun k => if q then g k else f k) := by
  by_cases h : q
  · exact Say.congr (fun k => if_pos h) (h1 h)
  · exact Say.congr (fun k => if_neg h) (h2 h)
theorem Say.imp {b : Bool} {p q : Prop} {g : Nat → Option Bool} (h : Say b p g) (i : p → q) : Say b q g := h.elim fun r e => ⟨r, e.1, fun x => i (e.2 x)⟩
theorem Say.bind {b : Bool} {p q : Prop} {g : Nat → Option Bool} {f : Nat → Bool → Option Bool} (c : Bool) (h : Say c q g) (h1 : q → Say b p (fun k => f k c)) (h2 : Say b p (fun k => f k (!c))) : Say b p (fun k => (g k).bind (f k)) := by
  obtain ⟨r, e, i⟩ := h
  by_cases hr : r = c
  · obtain ⟨r2, e2, i2⟩ := h1 (i hr)
    exact ⟨r2, Ev.bind e (hr ▸ e2), i2⟩
  · have hr2 : r = !c := by cases r <;> cases c <;> simp_all
    obtain ⟨r2, e2, i2⟩ := h2
    exact ⟨r2, Ev.bind e (hr2 ▸ e2), i2⟩

theorem rdB_at (l : List ByteArray) (i : Nat) (h : i < l.length) : rdOf ByteArray.empty l (i : Int) = l[i] := by
  simp [rdOf, List.getD_eq_getElem?_getD, List.getElem?_eq_getElem h]
theorem all_drop {α : Type} {P : α → Prop} {l : List α} {i : Nat} (hi : i < l.length) (h0 : P l[i]) (h : ∀ x ∈ l.drop (i + 1), P x) : ∀ x ∈ l.drop i, P x := by
  rw [List.drop_eq_getElem_cons hi]
  intro x hx
  rcases List.mem_cons.mp hx with h1 | h1
  · exact h1 ▸ h0
  · exact h x h1
theorem cells_loop (l : List S29) (hl : l.length ≤ 80) : ∀ (m i : Nat), i + m = l.length → Say false (∀ c ∈ l.drop i, Small c) (fun k => joistref00_LongCells.l0 k l (i : Int))
  | 0, i, hi => Say.step (fun k => by simp only [joistref00_LongCells.l0]; rw [if_neg (by omega)]) (Say.yes false _ (by rw [List.drop_eq_nil_iff.mpr (by omega)]; intro c h; cases h))
  | m + 1, i, hi => by
    have hi1 : i < l.length := by omega
    refine Say.step (fun k => by simp only [joistref00_LongCells.l0]; rw [if_pos (by omega), if_pos (by omega), rd_at l i hi1, wrap_one i (by omega)]) ?_
    refine Say.ite (fun _ => Say.not _ false) fun h0 => Say.ite (fun _ => Say.not _ false) fun h1 => Say.ite (fun _ => Say.not _ false) fun h2 => Say.ite (fun _ => Say.not _ false) fun _ => ?_
    exact (cells_loop l hl m (i + 1) (by omega)).imp (all_drop hi1 ⟨by omega, by omega, by omega⟩)
theorem LongCells (l : List S29) : Say false (l.length ≤ 80 ∧ ∀ c ∈ l, Small c) (fun k => joistref00_LongCells.f k l 80) := by
  unfold joistref00_LongCells.f
  refine Say.ite (fun _ => Say.not _ false) fun h => ?_
  have hl : l.length ≤ 80 := by omega
  have := cells_loop l hl l.length 0 (by omega)
  rw [List.drop_zero] at this
  exact this.imp fun h => ⟨hl, h⟩
def SmallF (f0 : List ByteArray) (f1 f2 : ByteArray) : Prop := f0.length ≤ 20 ∧ f1.size ≤ 100 ∧ f2.size ≤ 100 ∧ ∀ x ∈ f0, x.size ≤ 100
theorem fams_loop (f0 : List ByteArray) (hl : f0.length ≤ 20) (a1 a2 a4 a5 a8 f1 f2 : ByteArray) (a0 a6 a7 f3 f4 f5 f6 : Int) : ∀ (m i : Nat), i + m = f0.length → Say false (∀ x ∈ f0.drop i, x.size ≤ 100) (fun k => joistref00_LongRequest.l0 k (i : Int) a0 a1 a2 [] a4 a5 a6 a7 a8 f0 f1 f2 f3 f4 f5 f6)
  | 0, i, hi => by
    refine Say.step (fun k => by simp only [joistref00_LongRequest.l0]; rw [if_neg (by omega)]) ?_
    exact Say.step (fun k => by simp only [joistref00_LongRequest.l1]; rw [if_neg (by simp)]) (Say.yes false _ (by rw [List.drop_eq_nil_iff.mpr (by omega)]; intro c h; cases h))
  | m + 1, i, hi => by
    have hi1 : i < f0.length := by omega
    refine Say.step (fun k => by simp only [joistref00_LongRequest.l0]; rw [if_pos (by omega), if_pos (by omega), rdB_at f0 i hi1, wrap_one i (by omega)]) ?_
    refine Say.ite (fun _ => Say.not _ false) fun h0 => ?_
    exact (fams_loop f0 hl a1 a2 a4 a5 a8 f1 f2 a0 a6 a7 f3 f4 f5 f6 m (i + 1) (by omega)).imp (all_drop hi1 (by omega))
end Go.Proofs.Ythbgjaboghnpjaa.Pure
