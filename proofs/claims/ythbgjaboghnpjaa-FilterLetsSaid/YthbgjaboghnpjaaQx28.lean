import Derived.Test.YthbgjaboghnpjaaQx0
import Derived.Test.YthbgjaboghnpjaaQx27
-- Written by a program of this session, out of Lean's print of the loaded program (a patched copy of the kit's print).
namespace Go.Proofs.Ythbgjaboghnpjaa.Q
open Go.RowKit Go.Proofs.YthbgjaboghnpjaaW.PrintWords Go.Proofs.YthbgjaboghnpjaaW.PrintLast Go.Proofs.YthbgjaboghnpjaaW.PrintMore
attribute [local go_sem] max2_int min2_int max_two min_two max_three min_three max_four min_four   -- for this text's walks alone
set_option linter.unusedVariables false
set_option linter.unusedSimpArgs false

/-! ### joistref01_Right: function 49 -/
def joistref01_Right.f (a0 : Int) : Option (Bool) := (joistref01_size.f a0).bind fun t133 => (if t133 ≤ 9218868437227405312 then (some true) else (some (a0 == 9221120237041090560)))
end Go.Proofs.Ythbgjaboghnpjaa.Q
