import Derived.Test.YthbgjaboghnpjaaQx0
import Derived.Test.YthbgjaboghnpjaaQx1
import Derived.Test.YthbgjaboghnpjaaQx22
import Derived.Test.YthbgjaboghnpjaaQx29
-- Written by a program of this session, out of Lean's print of the loaded program (a patched copy of the kit's print).
namespace Go.Proofs.Ythbgjaboghnpjaa.Q
open Go.RowKit Go.Proofs.YthbgjaboghnpjaaW.PrintWords Go.Proofs.YthbgjaboghnpjaaW.PrintLast Go.Proofs.YthbgjaboghnpjaaW.PrintMore
attribute [local go_sem] max2_int min2_int max_two min_two max_three min_three max_four min_four   -- for this text's walks alone
set_option linter.unusedVariables false
set_option linter.unusedSimpArgs false

attribute [local go_sem high] eqA27
/-! ### joistref03_Right: function 39 -/
mutual
def joistref03_Right.j0 : Nat → Bool → ByteArray → ByteArray → ByteArray → Int → Int → Int → Int → ByteArray → Option (Bool)
  | 0, _, _, _, _, _, _, _, _, _ => none
  | k + 1, x34, x138000, x138001, x138002, x138003, x138004, x138005, x138006, x138007 => if x34 = true then (some false) else (if x138004 = 1 then ((joistref02_Right.f k x138005 x138006 x138007).bind fun t139 => (some t139)) else (if x138004 = 2 then (joistref03_Right.j1 k x138004 (x138004 == 2) x138000 x138001 x138002 x138003 x138004 x138005 x138006 x138007) else (joistref03_Right.j1 k x138004 (x138004 == 3) x138000 x138001 x138002 x138003 x138004 x138005 x138006 x138007)))
def joistref03_Right.j1 : Nat → Int → Bool → ByteArray → ByteArray → ByteArray → Int → Int → Int → Int → ByteArray → Option (Bool)
  | 0, _, _, _, _, _, _, _, _, _, _ => none
  | k + 1, x36, x42, x138000, x138001, x138002, x138003, x138004, x138005, x138006, x138007 => if x42 = true then (some (x138005 == 0 && (x138006 == 0 && (x138007.toList == ([] : List UInt8))))) else (if x36 = 4 then (if (x138005 == 0 && (x138006 == 0 && (x138007.toList == ([] : List UInt8)))) = true then (some (x138002.toList == ([] : List UInt8))) else (some false)) else (some false))
end
def joistref03_Right.f (k : Nat) (a0_0 : ByteArray) (a0_1 : ByteArray) (a0_2 : ByteArray) (a0_3 : Int) (a0_4 : Int) (a0_5 : Int) (a0_6 : Int) (a0_7 : ByteArray) : Option (Bool) := if (a0_0.size : Int) < 1 then (joistref03_Right.j0 k true a0_0 a0_1 a0_2 a0_3 a0_4 a0_5 a0_6 a0_7) else (if (a0_0.size : Int) > 16 then (joistref03_Right.j0 k true a0_0 a0_1 a0_2 a0_3 a0_4 a0_5 a0_6 a0_7) else ((joistref03_Name.f k a0_1).bind fun t138 => (if t138 = true then (if (a0_2.size : Int) > 12 then (joistref03_Right.j0 k true a0_0 a0_1 a0_2 a0_3 a0_4 a0_5 a0_6 a0_7) else (if a0_3 < 0 then (joistref03_Right.j0 k true a0_0 a0_1 a0_2 a0_3 a0_4 a0_5 a0_6 a0_7) else (joistref03_Right.j0 k (decide (a0_3 > 1099511627776)) a0_0 a0_1 a0_2 a0_3 a0_4 a0_5 a0_6 a0_7))) else (joistref03_Right.j0 k true a0_0 a0_1 a0_2 a0_3 a0_4 a0_5 a0_6 a0_7))))
theorem joistref03_Right.mono_l : ∀ k, (∀ y0 y1 y2 y3 y4 y5 y6 y7 y8, LeO (joistref03_Right.j0 k y0 y1 y2 y3 y4 y5 y6 y7 y8) (joistref03_Right.j0 (k + 1) y0 y1 y2 y3 y4 y5 y6 y7 y8)) ∧ (∀ y0 y1 y2 y3 y4 y5 y6 y7 y8 y9, LeO (joistref03_Right.j1 k y0 y1 y2 y3 y4 y5 y6 y7 y8 y9) (joistref03_Right.j1 (k + 1) y0 y1 y2 y3 y4 y5 y6 y7 y8 y9))
  | 0 => ⟨fun _ _ _ _ _ _ _ _ _ r h => by simp [joistref03_Right.j0] at h, fun _ _ _ _ _ _ _ _ _ _ r h => by simp [joistref03_Right.j1] at h⟩
  | k + 1 => by
    obtain ⟨ih0, ih1⟩ := joistref03_Right.mono_l k
    refine ⟨?_, ?_⟩
    · intro y0 y1 y2 y3 y4 y5 y6 y7 y8
      unfold joistref03_Right.j0
      repeat' first
      | (with_reducible exact ih0 _ _ _ _ _ _ _ _ _)
      | (with_reducible exact ih1 _ _ _ _ _ _ _ _ _ _)
      | (with_reducible exact joistref02_Right.mono _ _ _ _)
      | (with_reducible exact joistref03_Name.mono _ _)
      | (with_reducible exact LeO.refl _)
      | (with_reducible exact LeO.none _)
      | (with_reducible refine LeO.ite ?_ ?_)
      | (with_reducible refine LeO.bind ?_ (fun _ => ?_))
      | exact ih0 _ _ _ _ _ _ _ _ _
      | exact ih1 _ _ _ _ _ _ _ _ _ _
      | exact joistref02_Right.mono _ _ _ _
      | exact joistref03_Name.mono _ _
      | exact LeO.none _
      | refine LeO.ite ?_ ?_
      | refine LeO.bind ?_ (fun _ => ?_)
    · intro y0 y1 y2 y3 y4 y5 y6 y7 y8 y9
      unfold joistref03_Right.j1
      repeat' first
      | (with_reducible exact ih0 _ _ _ _ _ _ _ _ _)
      | (with_reducible exact ih1 _ _ _ _ _ _ _ _ _ _)
      | (with_reducible exact joistref02_Right.mono _ _ _ _)
      | (with_reducible exact joistref03_Name.mono _ _)
      | (with_reducible exact LeO.refl _)
      | (with_reducible exact LeO.none _)
      | (with_reducible refine LeO.ite ?_ ?_)
      | (with_reducible refine LeO.bind ?_ (fun _ => ?_))
      | exact ih0 _ _ _ _ _ _ _ _ _
      | exact ih1 _ _ _ _ _ _ _ _ _ _
      | exact joistref02_Right.mono _ _ _ _
      | exact joistref03_Name.mono _ _
      | exact LeO.none _
      | refine LeO.ite ?_ ?_
      | refine LeO.bind ?_ (fun _ => ?_)
theorem joistref03_Right.mono : ∀ a0 a1 a2 a3 a4 a5 a6 a7 k, LeO (joistref03_Right.f k a0 a1 a2 a3 a4 a5 a6 a7) (joistref03_Right.f (k + 1) a0 a1 a2 a3 a4 a5 a6 a7) := by
  intro a0 a1 a2 a3 a4 a5 a6 a7 k
  obtain ⟨ih0, ih1⟩ := joistref03_Right.mono_l k
  unfold joistref03_Right.f
  repeat' first
      | (with_reducible exact ih0 _ _ _ _ _ _ _ _ _)
      | (with_reducible exact ih1 _ _ _ _ _ _ _ _ _ _)
      | (with_reducible exact joistref02_Right.mono _ _ _ _)
      | (with_reducible exact joistref03_Name.mono _ _)
      | (with_reducible exact LeO.refl _)
      | (with_reducible exact LeO.none _)
      | (with_reducible refine LeO.ite ?_ ?_)
      | (with_reducible refine LeO.bind ?_ (fun _ => ?_))
      | exact ih0 _ _ _ _ _ _ _ _ _
      | exact ih1 _ _ _ _ _ _ _ _ _ _
      | exact joistref02_Right.mono _ _ _ _
      | exact joistref03_Name.mono _ _
      | exact LeO.none _
      | refine LeO.ite ?_ ?_
      | refine LeO.bind ?_ (fun _ => ?_)
end Go.Proofs.Ythbgjaboghnpjaa.Q
