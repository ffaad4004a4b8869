/- Apply, and the loose filter, in plain Lean. -/
import Derived.Test.YthbgjaboghnpjaaPureG
set_option linter.unusedVariables false
set_option linter.unusedSimpArgs false
namespace Go.Proofs.Ythbgjaboghnpjaa.Pure
open Go.RowKit Go.Proofs.Ythbgjaboghnpjaa.Q Go.Proofs.YthbgjaboghnpjaaW.PrintWords Go.Proofs.YthbgjaboghnpjaaW.PrintLast Go.Proofs.YthbgjaboghnpjaaW.PrintMore

theorem apply_now (f0 : List ByteArray) (f1 f2 : ByteArray) (f3 f4 f5 f6 : Int) (l : List S29) (hl : l.length ≤ 1000) : filter_Apply.f f0 f1 f2 f3 f4 f5 f6 l = some (applyL f0 f1 f2 f3 f4 f5 f6 l) := by
  unfold filter_Apply.f
  rw [if_pos (by omega)]
end Go.Proofs.Ythbgjaboghnpjaa.Pure
