/- What was asked for is asked for again: of the sieve alone, in plain Lean. -/
import Derived.Test.YthbgjaboghnpjaaPureD
set_option linter.unusedVariables false
set_option linter.unusedSimpArgs false
namespace Go.Proofs.Ythbgjaboghnpjaa.Pure
open Go.RowKit Go.Proofs.Ythbgjaboghnpjaa.Q Go.Proofs.YthbgjaboghnpjaaW.PrintWords Go.Proofs.YthbgjaboghnpjaaW.PrintLast Go.Proofs.YthbgjaboghnpjaaW.PrintMore

def lets (f0 : List ByteArray) (f1 f2 : ByteArray) (f3 f4 f5 f6 : Int) (c : S29) : Bool := letsB f0 f1 f2 f3 f4 c.f1 c.f2 c.f3
end Go.Proofs.Ythbgjaboghnpjaa.Pure
