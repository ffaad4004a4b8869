import Derived.Test.YthbgjaboghnpjaaQx0
import Derived.Test.YthbgjaboghnpjaaQx30
import Derived.Test.YthbgjaboghnpjaaQx32
-- Written by a program of this session, out of Lean's print of the loaded program (a patched copy of the kit's print).
namespace Go.Proofs.Ythbgjaboghnpjaa.Q
open Go.RowKit Go.Proofs.YthbgjaboghnpjaaW.PrintWords Go.Proofs.YthbgjaboghnpjaaW.PrintLast Go.Proofs.YthbgjaboghnpjaaW.PrintMore
attribute [local go_sem] max2_int min2_int max_two min_two max_three min_three max_four min_four   -- for this text's walks alone
set_option linter.unusedVariables false
set_option linter.unusedSimpArgs false

/-! ### joistref06_Sort: function 25 -/
mutual
def joistref06_Sort.l0 : Nat → List (S29) → List (S29) → Int → Option ((List (S29)))
  | 0, _, _, _ => none
  | k + 1, x0, x3, x4 => if x4 < (x0.length : Int) then (if 0 ≤ x4 then ((joistref03_Right.f k ((rd_T29 x0 x4).f0) ((rd_T29 x0 x4).f1) ((rd_T29 x0 x4).f2) ((rd_T29 x0 x4).f3) ((rd_T29 x0 x4).f4) ((rd_T29 x0 x4).f5.f0) ((rd_T29 x0 x4).f5.f1) ((rd_T29 x0 x4).f5.f2)).bind fun t157 => (if t157 = true then (joistref06_Sort.l1 k x0 x3 x4 (([] : List (S29))) false 0) else (joistref06_Sort.l0 k x0 x3 (wrap64 (x4 + 1))))) else (none)) else (some x3)
def joistref06_Sort.l1 : Nat → List (S29) → List (S29) → Int → List (S29) → Bool → Int → Option ((List (S29)))
  | 0, _, _, _, _, _, _ => none
  | k + 1, x0, x3, x4, x5, x6, x7 => if x7 < (x3.length : Int) then (if 0 ≤ x4 then (if x4 < (x0.length : Int) then (if 0 ≤ x7 then ((joistref03_Order.f k ((rd_T29 x0 x4).f0) ((rd_T29 x0 x4).f1) ((rd_T29 x0 x4).f2) ((rd_T29 x0 x4).f3) ((rd_T29 x0 x4).f4) ((rd_T29 x0 x4).f5.f0) ((rd_T29 x0 x4).f5.f1) ((rd_T29 x0 x4).f5.f2) ((rd_T29 x3 x7).f0) ((rd_T29 x3 x7).f1) ((rd_T29 x3 x7).f2) ((rd_T29 x3 x7).f3) ((rd_T29 x3 x7).f4) ((rd_T29 x3 x7).f5.f0) ((rd_T29 x3 x7).f5.f1) ((rd_T29 x3 x7).f5.f2)).bind fun t167 => (if x6 = true then (joistref06_Sort.j2 k x0 x3 x4 x5 x6 x7 t167 false) else (joistref06_Sort.j2 k x0 x3 x4 x5 x6 x7 t167 (decide (t167 ≤ 0))))) else (none)) else (none)) else (none)) else (if x6 = true then (joistref06_Sort.l0 k x0 x5 (wrap64 (x4 + 1))) else (if 0 ≤ x4 then (if x4 < (x0.length : Int) then (if x5.length < 1466015503701 then (joistref06_Sort.l0 k x0 (x5 ++ [(⟨(rd_T29 x0 x4).f0, (rd_T29 x0 x4).f1, (rd_T29 x0 x4).f2, (rd_T29 x0 x4).f3, (rd_T29 x0 x4).f4, (⟨(rd_T29 x0 x4).f5.f0, (rd_T29 x0 x4).f5.f1, (rd_T29 x0 x4).f5.f2⟩ : S27)⟩ : S29)]) (wrap64 (x4 + 1))) else (none)) else (none)) else (none)))
def joistref06_Sort.j2 : Nat → List (S29) → List (S29) → Int → List (S29) → Bool → Int → Int → Bool → Option ((List (S29)))
  | 0, _, _, _, _, _, _, _, _ => none
  | k + 1, x0, x3, x4, x5, x6, x7, x8, x43 => if x43 = true then (if 0 ≤ x4 then (if x4 < (x0.length : Int) then (if x5.length < 1466015503701 then ((some (x5 ++ [(⟨(rd_T29 x0 x4).f0, (rd_T29 x0 x4).f1, (rd_T29 x0 x4).f2, (rd_T29 x0 x4).f3, (rd_T29 x0 x4).f4, (⟨(rd_T29 x0 x4).f5.f0, (rd_T29 x0 x4).f5.f1, (rd_T29 x0 x4).f5.f2⟩ : S27)⟩ : S29)] : List (S29))).bind fun y169 => (if x8 = 0 then (joistref06_Sort.l1 k x0 x3 x4 y169 true (wrap64 (x7 + 1))) else (if 0 ≤ x7 then (if x7 < (x3.length : Int) then (if y169.length < 1466015503701 then (joistref06_Sort.l1 k x0 x3 x4 (y169 ++ [(⟨(rd_T29 x3 x7).f0, (rd_T29 x3 x7).f1, (rd_T29 x3 x7).f2, (rd_T29 x3 x7).f3, (rd_T29 x3 x7).f4, (⟨(rd_T29 x3 x7).f5.f0, (rd_T29 x3 x7).f5.f1, (rd_T29 x3 x7).f5.f2⟩ : S27)⟩ : S29)]) true (wrap64 (x7 + 1))) else (none)) else (none)) else (none)))) else (none)) else (none)) else (none)) else (if x8 = 0 then (joistref06_Sort.l1 k x0 x3 x4 x5 x6 (wrap64 (x7 + 1))) else (if 0 ≤ x7 then (if x7 < (x3.length : Int) then (if x5.length < 1466015503701 then (joistref06_Sort.l1 k x0 x3 x4 (x5 ++ [(⟨(rd_T29 x3 x7).f0, (rd_T29 x3 x7).f1, (rd_T29 x3 x7).f2, (rd_T29 x3 x7).f3, (rd_T29 x3 x7).f4, (⟨(rd_T29 x3 x7).f5.f0, (rd_T29 x3 x7).f5.f1, (rd_T29 x3 x7).f5.f2⟩ : S27)⟩ : S29)]) x6 (wrap64 (x7 + 1))) else (none)) else (none)) else (none)))
end
def joistref06_Sort.f (k : Nat) (l0 : List (S29)) : Option ((List (S29))) := joistref06_Sort.l0 k l0 (([] : List (S29))) 0
theorem joistref06_Sort.mono_l : ∀ k, (∀ y0 y1 y2, LeO (joistref06_Sort.l0 k y0 y1 y2) (joistref06_Sort.l0 (k + 1) y0 y1 y2)) ∧ (∀ y0 y1 y2 y3 y4 y5, LeO (joistref06_Sort.l1 k y0 y1 y2 y3 y4 y5) (joistref06_Sort.l1 (k + 1) y0 y1 y2 y3 y4 y5)) ∧ (∀ y0 y1 y2 y3 y4 y5 y6 y7, LeO (joistref06_Sort.j2 k y0 y1 y2 y3 y4 y5 y6 y7) (joistref06_Sort.j2 (k + 1) y0 y1 y2 y3 y4 y5 y6 y7))
  | 0 => ⟨fun _ _ _ r h => by simp [joistref06_Sort.l0] at h, fun _ _ _ _ _ _ r h => by simp [joistref06_Sort.l1] at h, fun _ _ _ _ _ _ _ _ r h => by simp [joistref06_Sort.j2] at h⟩
  | k + 1 => by
    obtain ⟨ih0, ih1, ih2⟩ := joistref06_Sort.mono_l k
    refine ⟨?_, ?_, ?_⟩
    · intro y0 y1 y2
      unfold joistref06_Sort.l0
      repeat' first
      | (with_reducible exact ih0 _ _ _)
      | (with_reducible exact ih1 _ _ _ _ _ _)
      | (with_reducible exact ih2 _ _ _ _ _ _ _ _)
      | (with_reducible exact joistref03_Order.mono _ _ _ _ _ _ _ _ _ _ _ _ _ _ _ _ _)
      | (with_reducible exact joistref03_Right.mono _ _ _ _ _ _ _ _ _)
      | (with_reducible exact LeO.refl _)
      | (with_reducible exact LeO.none _)
      | (with_reducible refine LeO.ite ?_ ?_)
      | (with_reducible refine LeO.bind ?_ (fun _ => ?_))
      | exact ih0 _ _ _
      | exact ih1 _ _ _ _ _ _
      | exact ih2 _ _ _ _ _ _ _ _
      | exact joistref03_Order.mono _ _ _ _ _ _ _ _ _ _ _ _ _ _ _ _ _
      | exact joistref03_Right.mono _ _ _ _ _ _ _ _ _
      | exact LeO.none _
      | refine LeO.ite ?_ ?_
      | refine LeO.bind ?_ (fun _ => ?_)
    · intro y0 y1 y2 y3 y4 y5
      unfold joistref06_Sort.l1
      repeat' first
      | (with_reducible exact ih0 _ _ _)
      | (with_reducible exact ih1 _ _ _ _ _ _)
      | (with_reducible exact ih2 _ _ _ _ _ _ _ _)
      | (with_reducible exact joistref03_Order.mono _ _ _ _ _ _ _ _ _ _ _ _ _ _ _ _ _)
      | (with_reducible exact joistref03_Right.mono _ _ _ _ _ _ _ _ _)
      | (with_reducible exact LeO.refl _)
      | (with_reducible exact LeO.none _)
      | (with_reducible refine LeO.ite ?_ ?_)
      | (with_reducible refine LeO.bind ?_ (fun _ => ?_))
      | exact ih0 _ _ _
      | exact ih1 _ _ _ _ _ _
      | exact ih2 _ _ _ _ _ _ _ _
      | exact joistref03_Order.mono _ _ _ _ _ _ _ _ _ _ _ _ _ _ _ _ _
      | exact joistref03_Right.mono _ _ _ _ _ _ _ _ _
      | exact LeO.none _
      | refine LeO.ite ?_ ?_
      | refine LeO.bind ?_ (fun _ => ?_)
    · intro y0 y1 y2 y3 y4 y5 y6 y7
      unfold joistref06_Sort.j2
      repeat' first
      | (with_reducible exact ih0 _ _ _)
      | (with_reducible exact ih1 _ _ _ _ _ _)
      | (with_reducible exact ih2 _ _ _ _ _ _ _ _)
      | (with_reducible exact joistref03_Order.mono _ _ _ _ _ _ _ _ _ _ _ _ _ _ _ _ _)
      | (with_reducible exact joistref03_Right.mono _ _ _ _ _ _ _ _ _)
      | (with_reducible exact LeO.refl _)
      | (with_reducible exact LeO.none _)
      | (with_reducible refine LeO.ite ?_ ?_)
      | (with_reducible refine LeO.bind ?_ (fun _ => ?_))
      | exact ih0 _ _ _
      | exact ih1 _ _ _ _ _ _
      | exact ih2 _ _ _ _ _ _ _ _
      | exact joistref03_Order.mono _ _ _ _ _ _ _ _ _ _ _ _ _ _ _ _ _
      | exact joistref03_Right.mono _ _ _ _ _ _ _ _ _
      | exact LeO.none _
      | refine LeO.ite ?_ ?_
      | refine LeO.bind ?_ (fun _ => ?_)
theorem joistref06_Sort.mono : ∀ a0 k, LeO (joistref06_Sort.f k a0) (joistref06_Sort.f (k + 1) a0) := by
  intro a0 k
  obtain ⟨ih0, ih1, ih2⟩ := joistref06_Sort.mono_l k
  unfold joistref06_Sort.f
  repeat' first
      | (with_reducible exact ih0 _ _ _)
      | (with_reducible exact ih1 _ _ _ _ _ _)
      | (with_reducible exact ih2 _ _ _ _ _ _ _ _)
      | (with_reducible exact joistref03_Order.mono _ _ _ _ _ _ _ _ _ _ _ _ _ _ _ _ _)
      | (with_reducible exact joistref03_Right.mono _ _ _ _ _ _ _ _ _)
      | (with_reducible exact LeO.refl _)
      | (with_reducible exact LeO.none _)
      | (with_reducible refine LeO.ite ?_ ?_)
      | (with_reducible refine LeO.bind ?_ (fun _ => ?_))
      | exact ih0 _ _ _
      | exact ih1 _ _ _ _ _ _
      | exact ih2 _ _ _ _ _ _ _ _
      | exact joistref03_Order.mono _ _ _ _ _ _ _ _ _ _ _ _ _ _ _ _ _
      | exact joistref03_Right.mono _ _ _ _ _ _ _ _ _
      | exact LeO.none _
      | refine LeO.ite ?_ ?_
      | refine LeO.bind ?_ (fun _ => ?_)
end Go.Proofs.Ythbgjaboghnpjaa.Q
