/-
  No cell of these rows narrows 'for every input' (looked for: loops, veiled, ifaces, maps, wideKeys, modest, calm, conditions, laid).
  DERIVED. THE GIVEN ROWS OF THIS SEAT. 5 by the template 'for every input the law returns true; each argument reads behind the call as it read before'; 0 by the template 'total and deterministic' (their statements: YthbgjaboghnpjaaTotals.lean).
  GIVEN WITH THE SEED: the statements are not yours to turn. If you find one false, say at which input.
  Laid BY PROGRAM, IN A SANDBOX (cutbox-rows.mjs): the forced cells as the released guide's own fill.sh prints them over the translation 5798caed283dfb62… (all of the seat's roots in one cut). By AI agents, Wed Nov 11 2026. No macro, syntax, notation, axiom, sorry.
-/
import Derived.Test.YthbgjaboghnpjaaChecked
import GoSem.Claim
import GoSem.ClaimJoined
import GoSem.ClaimMapViews
import Derived.JoinedTies
import Derived.KernelRfl
namespace Go.Proofs.Ythbgjaboghnpjaa
/- THE CELL 'sum', in the pinned program and in every row, IS THE sha256 OF THE DUMP (.gsa) THAT YthbgjaboghnpjaaProg.lean LOADS. Nothing in Lean hashes anything: it is a label: what it is worth is what the hold of that sum in a sandbox is worth. -/
noncomputable def Try.pinned : Pinned := { name := "ythbgjaboghnpjaa", sum := "5798caed283dfb62e063f45d528c81382857cd5d8213b28d44359fe808753078", checked := Try.checked }
namespace Rows
def none {H : Type} : Left H := { results := [], args := [] }

/-- 'joistlaw13.FilterLets': WHATEVER THE INPUT: true; the input reads as it did. -/
def filterLetsSpec : ChangeSpec := { name := "filterLets", fn := fun _ => fun
  | [d1, d2, d3] => { results := [.lit (.bool true)], args := [d1, d2, d3] }
  | _ => none }
def filterLetsRow : OpenClaim := { program := "ythbgjaboghnpjaa", sum := "5798caed283dfb62e063f45d528c81382857cd5d8213b28d44359fe808753078", func := "joist/joistlaw13.FilterLets", spec := "filterLets", unfollowed := true, recurses := true, apart := false }
def FilterLetsSaid : Prop := filterLetsRow.holds Try.pinned (OpenSpec.ofChange filterLetsSpec)

/-- ITS FALSE NEIGHBOUR: 'it returns false'. Refute it at one input. -/
def filterLetsWrong : ChangeSpec := { name := "filterLets", fn := fun _ => fun
  | [d1, d2, d3] => { results := [.lit (.bool false)], args := [d1, d2, d3] }
  | _ => none }
def FilterLetsWrongFalsely : Prop := filterLetsRow.holds Try.pinned (OpenSpec.ofChange filterLetsWrong)

/-- 'joistlaw13.FilterTakes': WHATEVER THE INPUT: true; the input reads as it did. -/
def filterTakesSpec : ChangeSpec := { name := "filterTakes", fn := fun _ => fun
  | [d1, d2] => { results := [.lit (.bool true)], args := [d1, d2] }
  | _ => none }
def filterTakesRow : OpenClaim := { program := "ythbgjaboghnpjaa", sum := "5798caed283dfb62e063f45d528c81382857cd5d8213b28d44359fe808753078", func := "joist/joistlaw13.FilterTakes", spec := "filterTakes", unfollowed := true, recurses := true, apart := false }
def FilterTakesSaid : Prop := filterTakesRow.holds Try.pinned (OpenSpec.ofChange filterTakesSpec)

/-- ITS FALSE NEIGHBOUR: 'it returns false'. Refute it at one input. -/
def filterTakesWrong : ChangeSpec := { name := "filterTakes", fn := fun _ => fun
  | [d1, d2] => { results := [.lit (.bool false)], args := [d1, d2] }
  | _ => none }
def FilterTakesWrongFalsely : Prop := filterTakesRow.holds Try.pinned (OpenSpec.ofChange filterTakesWrong)

/-- 'joistlaw13.FilterParts': WHATEVER THE INPUT: true; the input reads as it did. -/
def filterPartsSpec : ChangeSpec := { name := "filterParts", fn := fun _ => fun
  | [d1, d2] => { results := [.lit (.bool true)], args := [d1, d2] }
  | _ => none }
def filterPartsRow : OpenClaim := { program := "ythbgjaboghnpjaa", sum := "5798caed283dfb62e063f45d528c81382857cd5d8213b28d44359fe808753078", func := "joist/joistlaw13.FilterParts", spec := "filterParts", unfollowed := true, recurses := true, apart := false }
def FilterPartsSaid : Prop := filterPartsRow.holds Try.pinned (OpenSpec.ofChange filterPartsSpec)

/-- ITS FALSE NEIGHBOUR: 'it returns false'. Refute it at one input. -/
def filterPartsWrong : ChangeSpec := { name := "filterParts", fn := fun _ => fun
  | [d1, d2] => { results := [.lit (.bool false)], args := [d1, d2] }
  | _ => none }
def FilterPartsWrongFalsely : Prop := filterPartsRow.holds Try.pinned (OpenSpec.ofChange filterPartsWrong)

/-- 'joistlaw13.FilterAgain': WHATEVER THE INPUT: true; the input reads as it did. -/
def filterAgainSpec : ChangeSpec := { name := "filterAgain", fn := fun _ => fun
  | [d1, d2] => { results := [.lit (.bool true)], args := [d1, d2] }
  | _ => none }
def filterAgainRow : OpenClaim := { program := "ythbgjaboghnpjaa", sum := "5798caed283dfb62e063f45d528c81382857cd5d8213b28d44359fe808753078", func := "joist/joistlaw13.FilterAgain", spec := "filterAgain", unfollowed := true, recurses := true, apart := false }
def FilterAgainSaid : Prop := filterAgainRow.holds Try.pinned (OpenSpec.ofChange filterAgainSpec)

/-- ITS FALSE NEIGHBOUR: 'it returns false'. Refute it at one input. -/
def filterAgainWrong : ChangeSpec := { name := "filterAgain", fn := fun _ => fun
  | [d1, d2] => { results := [.lit (.bool false)], args := [d1, d2] }
  | _ => none }
def FilterAgainWrongFalsely : Prop := filterAgainRow.holds Try.pinned (OpenSpec.ofChange filterAgainWrong)

/-- 'joistlaw13.FilterRows': WHATEVER THE INPUT: true; the input reads as it did. -/
def filterRowsSpec : ChangeSpec := { name := "filterRows", fn := fun _ => fun
  | [d1, d2] => { results := [.lit (.bool true)], args := [d1, d2] }
  | _ => none }
def filterRowsRow : OpenClaim := { program := "ythbgjaboghnpjaa", sum := "5798caed283dfb62e063f45d528c81382857cd5d8213b28d44359fe808753078", func := "joist/joistlaw13.FilterRows", spec := "filterRows", unfollowed := true, recurses := true, apart := false }
def FilterRowsSaid : Prop := filterRowsRow.holds Try.pinned (OpenSpec.ofChange filterRowsSpec)

/-- ITS FALSE NEIGHBOUR: 'it returns false'. Refute it at one input. -/
def filterRowsWrong : ChangeSpec := { name := "filterRows", fn := fun _ => fun
  | [d1, d2] => { results := [.lit (.bool false)], args := [d1, d2] }
  | _ => none }
def FilterRowsWrongFalsely : Prop := filterRowsRow.holds Try.pinned (OpenSpec.ofChange filterRowsWrong)

/- THE SECOND FORM. 'bulk': how many values and letters a reading holds, each counted each time it is reached (what is shared counts as often as it is met; a slice's spare places count too). A statement '..UptoSaid' is the law's where the arguments, and the package variables that the reading takes, are together of bulk at most 1048576: NARROWER than '..Said'. Prove '..Said' where nothing that the law and all that it calls make is longer than what came in: it says more and counts as full. Else prove '..UptoSaid'. A law counts once. -/
mutual
def uptoBulk {H : Type} : DataW H → Nat
  | .lit (.string bytes) => bytes.length + 1
  | .lit _ => 1
  | .nil => 1
  | .ptr d => uptoBulk d + 1
  | .slice elems spare => uptoBulkAll elems + uptoBulkAll spare + 1
  | .agg parts => uptoBulkAll parts + 1
  | .iface _ d => uptoBulk d + 1
  | .map entries => uptoBulkEntries entries + 1
  | .held _ => 1
def uptoBulkAll {H : Type} : List (DataW H) → Nat
  | [] => 0
  | d :: r => uptoBulk d + uptoBulkAll r
def uptoBulkEntries {H : Type} : List (Lit × DataW H) → Nat
  | [] => 0
  | x :: r => uptoBulkEntry x + uptoBulkEntries r
def uptoBulkEntry {H : Type} : Lit × DataW H → Nat
  | (.string bytes, d) => bytes.length + uptoBulk d + 1
  | (_, d) => uptoBulk d + 1
 end
def uptoSmall : (H : Type) → List (DataW H) → Bool := fun _ ds => decide (uptoBulkAll ds ≤ 1048576)
def OpenSpec.upto (s : _root_.Go.ChangeSpec) : _root_.Go.OpenSpec := { _root_.Go.OpenSpec.ofChange s with cond := some uptoSmall }

/-- 'joistlaw13.FilterLets', WHERE WHAT IT READS IS OF BULK AT MOST 1048576: true; the input reads as it did. -/
def filterLetsUptoRow : OpenClaim := { program := "ythbgjaboghnpjaa", sum := "5798caed283dfb62e063f45d528c81382857cd5d8213b28d44359fe808753078", func := "joist/joistlaw13.FilterLets", spec := "filterLets", unfollowed := true, recurses := true, apart := false, narrowed := true }
def FilterLetsUptoSaid : Prop := filterLetsUptoRow.holds Try.pinned (OpenSpec.upto filterLetsSpec)

/-- 'joistlaw13.FilterTakes', WHERE WHAT IT READS IS OF BULK AT MOST 1048576: true; the input reads as it did. -/
def filterTakesUptoRow : OpenClaim := { program := "ythbgjaboghnpjaa", sum := "5798caed283dfb62e063f45d528c81382857cd5d8213b28d44359fe808753078", func := "joist/joistlaw13.FilterTakes", spec := "filterTakes", unfollowed := true, recurses := true, apart := false, narrowed := true }
def FilterTakesUptoSaid : Prop := filterTakesUptoRow.holds Try.pinned (OpenSpec.upto filterTakesSpec)

/-- 'joistlaw13.FilterParts', WHERE WHAT IT READS IS OF BULK AT MOST 1048576: true; the input reads as it did. -/
def filterPartsUptoRow : OpenClaim := { program := "ythbgjaboghnpjaa", sum := "5798caed283dfb62e063f45d528c81382857cd5d8213b28d44359fe808753078", func := "joist/joistlaw13.FilterParts", spec := "filterParts", unfollowed := true, recurses := true, apart := false, narrowed := true }
def FilterPartsUptoSaid : Prop := filterPartsUptoRow.holds Try.pinned (OpenSpec.upto filterPartsSpec)

/-- 'joistlaw13.FilterAgain', WHERE WHAT IT READS IS OF BULK AT MOST 1048576: true; the input reads as it did. -/
def filterAgainUptoRow : OpenClaim := { program := "ythbgjaboghnpjaa", sum := "5798caed283dfb62e063f45d528c81382857cd5d8213b28d44359fe808753078", func := "joist/joistlaw13.FilterAgain", spec := "filterAgain", unfollowed := true, recurses := true, apart := false, narrowed := true }
def FilterAgainUptoSaid : Prop := filterAgainUptoRow.holds Try.pinned (OpenSpec.upto filterAgainSpec)

/-- 'joistlaw13.FilterRows', WHERE WHAT IT READS IS OF BULK AT MOST 1048576: true; the input reads as it did. -/
def filterRowsUptoRow : OpenClaim := { program := "ythbgjaboghnpjaa", sum := "5798caed283dfb62e063f45d528c81382857cd5d8213b28d44359fe808753078", func := "joist/joistlaw13.FilterRows", spec := "filterRows", unfollowed := true, recurses := true, apart := false, narrowed := true }
def FilterRowsUptoSaid : Prop := filterRowsUptoRow.holds Try.pinned (OpenSpec.upto filterRowsSpec)

end Rows
end Go.Proofs.Ythbgjaboghnpjaa
