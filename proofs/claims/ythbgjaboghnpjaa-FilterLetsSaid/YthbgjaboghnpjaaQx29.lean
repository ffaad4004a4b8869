import Derived.Test.YthbgjaboghnpjaaQx0
import Derived.Test.YthbgjaboghnpjaaQx26
import Derived.Test.YthbgjaboghnpjaaQx28
-- Written by a program of this session, out of Lean's print of the loaded program (a patched copy of the kit's print).
namespace Go.Proofs.Ythbgjaboghnpjaa.Q
open Go.RowKit Go.Proofs.YthbgjaboghnpjaaW.PrintWords Go.Proofs.YthbgjaboghnpjaaW.PrintLast Go.Proofs.YthbgjaboghnpjaaW.PrintMore
attribute [local go_sem] max2_int min2_int max_two min_two max_three min_three max_four min_four   -- for this text's walks alone
set_option linter.unusedVariables false
set_option linter.unusedSimpArgs false

/-! ### joistref02_Right: function 45 -/
def joistref02_Right.f (k : Nat) (a0_0 : Int) (a0_1 : Int) (a0_2 : ByteArray) : Option (Bool) := if a0_0 = 1 then (some (a0_2.toList == ([] : List UInt8))) else (if a0_0 = 2 then (if a0_1 = 0 then (some (decide ((a0_2.size : Int) ≤ 32))) else (some false)) else (if a0_0 = 3 then (if a0_1 = 0 then (if (a0_2.size : Int) ≤ 32 then ((joistref02_Utf8.f k a0_2).bind fun t135 => (some t135)) else (some false)) else (some false)) else (if a0_0 = 4 then (if a0_2.toList = ([] : List UInt8) then (if a0_1 = 0 then (some true) else (some (a0_1 == 1))) else (some false)) else (if a0_0 = 5 then (if a0_2.toList = ([] : List UInt8) then ((joistref01_Right.f a0_1).bind fun t136 => (some t136)) else (some false)) else (some false)))))
theorem joistref02_Right.mono : ∀ a0 a1 a2 k, LeO (joistref02_Right.f k a0 a1 a2) (joistref02_Right.f (k + 1) a0 a1 a2) := by
  intro a0 a1 a2 k
  unfold joistref02_Right.f
  repeat' first
      | (with_reducible exact joistref02_Utf8.mono _ _)
      | (with_reducible exact LeO.refl _)
      | (with_reducible exact LeO.none _)
      | (with_reducible refine LeO.ite ?_ ?_)
      | (with_reducible refine LeO.bind ?_ (fun _ => ?_))
      | exact joistref02_Utf8.mono _ _
      | exact LeO.none _
      | refine LeO.ite ?_ ?_
      | refine LeO.bind ?_ (fun _ => ?_)
end Go.Proofs.Ythbgjaboghnpjaa.Q
