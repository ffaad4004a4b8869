/- The document's Sort: what it gives lies in the order of row, family and qualifier; on the printed functions alone. -/
import Derived.Test.YthbgjaboghnpjaaPureB
set_option linter.unusedVariables false
set_option linter.unusedSimpArgs false
namespace Go.Proofs.Ythbgjaboghnpjaa.Pure
open Go.RowKit Go.Proofs.Ythbgjaboghnpjaa.Q Go.Proofs.YthbgjaboghnpjaaW.PrintWords Go.Proofs.YthbgjaboghnpjaaW.PrintLast Go.Proofs.YthbgjaboghnpjaaW.PrintMore

/-! ### a right cell of a family has no qualifier -/
/-! ### the order of row, family and qualifier -/
def KL (a b : S29) : Prop := a.f0.toList < b.f0.toList ∨ (a.f0.toList = b.f0.toList ∧ (a.f1.toList < b.f1.toList ∨ (a.f1.toList = b.f1.toList ∧ ¬ b.f2.toList < a.f2.toList)))
theorem nlt_trans {a b c : List UInt8} (h1 : ¬ b < a) (h2 : ¬ c < b) : ¬ c < a := fun h => by
  by_cases h3 : a < b
  · exact h2 (List.lt_trans h h3)
  · have : a = b := List.le_antisymm (List.not_lt.mp h1) (List.not_lt.mp h3)
    exact h2 (this ▸ h)
theorem KL.trans {a b c : S29} (h1 : KL a b) (h2 : KL b c) : KL a c := by
  unfold KL at *
  rcases h1 with h1 | ⟨e1, h1⟩
  · rcases h2 with h2 | ⟨e2, h2⟩
    · exact .inl (List.lt_trans h1 h2)
    · exact .inl (e2 ▸ h1)
  · rcases h2 with h2 | ⟨e2, h2⟩
    · exact .inl (e1 ▸ h2)
    · refine .inr ⟨e1.trans e2, ?_⟩
      rcases h1 with h1 | ⟨f1, h1⟩
      · rcases h2 with h2 | ⟨f2, h2⟩
        · exact .inl (List.lt_trans h1 h2)
        · exact .inl (f2 ▸ h1)
      · rcases h2 with h2 | ⟨f2, h2⟩
        · exact .inl (f1 ▸ h2)
        · exact .inr ⟨f1.trans f2, nlt_trans h1 h2⟩
/-! ### one cell is put in -/
end Go.Proofs.Ythbgjaboghnpjaa.Pure
