/- The document's Sort of small cells: in the order of row, family and qualifier, and of those cells; on the printed functions alone. -/
import Derived.Test.YthbgjaboghnpjaaPureC
set_option linter.unusedVariables false
set_option linter.unusedSimpArgs false
namespace Go.Proofs.Ythbgjaboghnpjaa.Pure
open Go.RowKit Go.Proofs.Ythbgjaboghnpjaa.Q Go.Proofs.YthbgjaboghnpjaaW.PrintWords Go.Proofs.YthbgjaboghnpjaaW.PrintLast Go.Proofs.YthbgjaboghnpjaaW.PrintMore

theorem rd_at (l : List S29) (i : Nat) (h : i < l.length) : rd_T29 l (i : Int) = l[i] := by
  simp [rd_T29, List.getD_eq_getElem?_getD, List.getElem?_eq_getElem h]
end Go.Proofs.Ythbgjaboghnpjaa.Pure
