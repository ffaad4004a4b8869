/-
  No cell of these rows narrows 'for every input' (looked for: loops, veiled, ifaces, maps, wideKeys, modest, calm, conditions, laid).
  DERIVED. THE GIVEN ROWS OF THIS SEAT. 5 by the template 'for every input the law returns true; each argument reads behind the call as it read before'; 0 by the template 'total and deterministic' (their statements: YtjfmnjhkpkcakaaTotals.lean).
  GIVEN WITH THE SEED: the statements are not yours to turn. If you find one false, say at which input.
  Laid BY PROGRAM, IN A SANDBOX (cutbox-rows.mjs): the forced cells as the released guide's own fill.sh prints them over the translation 07397858ed4d66a4… (all of the seat's roots in one cut). By AI agents, Wed Nov 11 2026. No macro, syntax, notation, axiom, sorry.
-/
import Derived.Test.YtjfmnjhkpkcakaaChecked
import GoSem.Claim
import GoSem.ClaimJoined
import GoSem.ClaimMapViews
import Derived.JoinedTies
import Derived.KernelRfl
namespace Go.Proofs.Ytjfmnjhkpkcakaa
/- THE CELL 'sum', in the pinned program and in every row, IS THE sha256 OF THE DUMP (.gsa) THAT YtjfmnjhkpkcakaaProg.lean LOADS. Nothing in Lean hashes anything: it is a label: what it is worth is what the hold of that sum in a sandbox is worth. -/
noncomputable def Try.pinned : Pinned := { name := "ytjfmnjhkpkcakaa", sum := "07397858ed4d66a4d62f6ab75b1b91d741ca47edee15b039dcb13006071a2bf1", checked := Try.checked }
namespace Rows
def none {H : Type} : Left H := { results := [], args := [] }

/-- 'joistlaw04.SumBits': WHATEVER THE INPUT: true; the input reads as it did. -/
def sumBitsSpec : ChangeSpec := { name := "sumBits", fn := fun _ => fun
  | [d1, d2] => { results := [.lit (.bool true)], args := [d1, d2] }
  | _ => none }
def sumBitsRow : OpenClaim := { program := "ytjfmnjhkpkcakaa", sum := "07397858ed4d66a4d62f6ab75b1b91d741ca47edee15b039dcb13006071a2bf1", func := "joist/joistlaw04.SumBits", spec := "sumBits", unfollowed := true, recurses := true, apart := false }
def SumBitsSaid : Prop := sumBitsRow.holds Try.pinned (OpenSpec.ofChange sumBitsSpec)

/-- ITS FALSE NEIGHBOUR: 'it returns false'. Refute it at one input. -/
def sumBitsWrong : ChangeSpec := { name := "sumBits", fn := fun _ => fun
  | [d1, d2] => { results := [.lit (.bool false)], args := [d1, d2] }
  | _ => none }
def SumBitsWrongFalsely : Prop := sumBitsRow.holds Try.pinned (OpenSpec.ofChange sumBitsWrong)

/-- 'joistlaw04.SumSizes': WHATEVER THE INPUT: true; the input reads as it did. -/
def sumSizesSpec : ChangeSpec := { name := "sumSizes", fn := fun _ => fun
  | [d] => { results := [.lit (.bool true)], args := [d] }
  | _ => none }
def sumSizesRow : OpenClaim := { program := "ytjfmnjhkpkcakaa", sum := "07397858ed4d66a4d62f6ab75b1b91d741ca47edee15b039dcb13006071a2bf1", func := "joist/joistlaw04.SumSizes", spec := "sumSizes", unfollowed := true, recurses := true, apart := false }
def SumSizesSaid : Prop := sumSizesRow.holds Try.pinned (OpenSpec.ofChange sumSizesSpec)

/-- ITS FALSE NEIGHBOUR: 'it returns false'. Refute it at one input. -/
def sumSizesWrong : ChangeSpec := { name := "sumSizes", fn := fun _ => fun
  | [d] => { results := [.lit (.bool false)], args := [d] }
  | _ => none }
def SumSizesWrongFalsely : Prop := sumSizesRow.holds Try.pinned (OpenSpec.ofChange sumSizesWrong)

/-- 'joistlaw04.SumAnswers': WHATEVER THE INPUT: true; the input reads as it did. -/
def sumAnswersSpec : ChangeSpec := { name := "sumAnswers", fn := fun _ => fun
  | [d] => { results := [.lit (.bool true)], args := [d] }
  | _ => none }
def sumAnswersRow : OpenClaim := { program := "ytjfmnjhkpkcakaa", sum := "07397858ed4d66a4d62f6ab75b1b91d741ca47edee15b039dcb13006071a2bf1", func := "joist/joistlaw04.SumAnswers", spec := "sumAnswers", unfollowed := true, recurses := true, apart := false }
def SumAnswersSaid : Prop := sumAnswersRow.holds Try.pinned (OpenSpec.ofChange sumAnswersSpec)

/-- ITS FALSE NEIGHBOUR: 'it returns false'. Refute it at one input. -/
def sumAnswersWrong : ChangeSpec := { name := "sumAnswers", fn := fun _ => fun
  | [d] => { results := [.lit (.bool false)], args := [d] }
  | _ => none }
def SumAnswersWrongFalsely : Prop := sumAnswersRow.holds Try.pinned (OpenSpec.ofChange sumAnswersWrong)

/-- 'joistlaw04.SumBack': WHATEVER THE INPUT: true; the input reads as it did. -/
def sumBackSpec : ChangeSpec := { name := "sumBack", fn := fun _ => fun
  | [d1, d2] => { results := [.lit (.bool true)], args := [d1, d2] }
  | _ => none }
def sumBackRow : OpenClaim := { program := "ytjfmnjhkpkcakaa", sum := "07397858ed4d66a4d62f6ab75b1b91d741ca47edee15b039dcb13006071a2bf1", func := "joist/joistlaw04.SumBack", spec := "sumBack", unfollowed := true, recurses := true, apart := false }
def SumBackSaid : Prop := sumBackRow.holds Try.pinned (OpenSpec.ofChange sumBackSpec)

/-- ITS FALSE NEIGHBOUR: 'it returns false'. Refute it at one input. -/
def sumBackWrong : ChangeSpec := { name := "sumBack", fn := fun _ => fun
  | [d1, d2] => { results := [.lit (.bool false)], args := [d1, d2] }
  | _ => none }
def SumBackWrongFalsely : Prop := sumBackRow.holds Try.pinned (OpenSpec.ofChange sumBackWrong)

/-- 'joistlaw04.SumPlaces': WHATEVER THE INPUT: true; the input reads as it did. -/
def sumPlacesSpec : ChangeSpec := { name := "sumPlaces", fn := fun _ => fun
  | [d1, d2] => { results := [.lit (.bool true)], args := [d1, d2] }
  | _ => none }
def sumPlacesRow : OpenClaim := { program := "ytjfmnjhkpkcakaa", sum := "07397858ed4d66a4d62f6ab75b1b91d741ca47edee15b039dcb13006071a2bf1", func := "joist/joistlaw04.SumPlaces", spec := "sumPlaces", unfollowed := true, recurses := true, apart := false }
def SumPlacesSaid : Prop := sumPlacesRow.holds Try.pinned (OpenSpec.ofChange sumPlacesSpec)

/-- ITS FALSE NEIGHBOUR: 'it returns false'. Refute it at one input. -/
def sumPlacesWrong : ChangeSpec := { name := "sumPlaces", fn := fun _ => fun
  | [d1, d2] => { results := [.lit (.bool false)], args := [d1, d2] }
  | _ => none }
def SumPlacesWrongFalsely : Prop := sumPlacesRow.holds Try.pinned (OpenSpec.ofChange sumPlacesWrong)

/- THE SECOND FORM. 'bulk': how many values and letters a reading holds, each counted each time it is reached (what is shared counts as often as it is met; a slice's spare places count too). A statement '..UptoSaid' is the law's where the arguments, and the package variables that the reading takes, are together of bulk at most 1048576: NARROWER than '..Said'. Prove '..Said' where nothing that the law and all that it calls make is longer than what came in: it says more and counts as full. Else prove '..UptoSaid'. A law counts once. -/
mutual
def uptoBulk {H : Type} : DataW H → Nat
  | .lit (.string bytes) => bytes.length + 1
  | .lit _ => 1
  | .nil => 1
  | .ptr d => uptoBulk d + 1
  | .slice elems spare => uptoBulkAll elems + uptoBulkAll spare + 1
  | .agg parts => uptoBulkAll parts + 1
  | .iface _ d => uptoBulk d + 1
  | .map entries => uptoBulkEntries entries + 1
  | .held _ => 1
def uptoBulkAll {H : Type} : List (DataW H) → Nat
  | [] => 0
  | d :: r => uptoBulk d + uptoBulkAll r
def uptoBulkEntries {H : Type} : List (Lit × DataW H) → Nat
  | [] => 0
  | x :: r => uptoBulkEntry x + uptoBulkEntries r
def uptoBulkEntry {H : Type} : Lit × DataW H → Nat
  | (.string bytes, d) => bytes.length + uptoBulk d + 1
  | (_, d) => uptoBulk d + 1
 end
def uptoSmall : (H : Type) → List (DataW H) → Bool := fun _ ds => decide (uptoBulkAll ds ≤ 1048576)
def OpenSpec.upto (s : _root_.Go.ChangeSpec) : _root_.Go.OpenSpec := { _root_.Go.OpenSpec.ofChange s with cond := some uptoSmall }

/-- 'joistlaw04.SumBits', WHERE WHAT IT READS IS OF BULK AT MOST 1048576: true; the input reads as it did. -/
def sumBitsUptoRow : OpenClaim := { program := "ytjfmnjhkpkcakaa", sum := "07397858ed4d66a4d62f6ab75b1b91d741ca47edee15b039dcb13006071a2bf1", func := "joist/joistlaw04.SumBits", spec := "sumBits", unfollowed := true, recurses := true, apart := false, narrowed := true }
def SumBitsUptoSaid : Prop := sumBitsUptoRow.holds Try.pinned (OpenSpec.upto sumBitsSpec)

/-- 'joistlaw04.SumSizes', WHERE WHAT IT READS IS OF BULK AT MOST 1048576: true; the input reads as it did. -/
def sumSizesUptoRow : OpenClaim := { program := "ytjfmnjhkpkcakaa", sum := "07397858ed4d66a4d62f6ab75b1b91d741ca47edee15b039dcb13006071a2bf1", func := "joist/joistlaw04.SumSizes", spec := "sumSizes", unfollowed := true, recurses := true, apart := false, narrowed := true }
def SumSizesUptoSaid : Prop := sumSizesUptoRow.holds Try.pinned (OpenSpec.upto sumSizesSpec)

/-- 'joistlaw04.SumAnswers', WHERE WHAT IT READS IS OF BULK AT MOST 1048576: true; the input reads as it did. -/
def sumAnswersUptoRow : OpenClaim := { program := "ytjfmnjhkpkcakaa", sum := "07397858ed4d66a4d62f6ab75b1b91d741ca47edee15b039dcb13006071a2bf1", func := "joist/joistlaw04.SumAnswers", spec := "sumAnswers", unfollowed := true, recurses := true, apart := false, narrowed := true }
def SumAnswersUptoSaid : Prop := sumAnswersUptoRow.holds Try.pinned (OpenSpec.upto sumAnswersSpec)

/-- 'joistlaw04.SumBack', WHERE WHAT IT READS IS OF BULK AT MOST 1048576: true; the input reads as it did. -/
def sumBackUptoRow : OpenClaim := { program := "ytjfmnjhkpkcakaa", sum := "07397858ed4d66a4d62f6ab75b1b91d741ca47edee15b039dcb13006071a2bf1", func := "joist/joistlaw04.SumBack", spec := "sumBack", unfollowed := true, recurses := true, apart := false, narrowed := true }
def SumBackUptoSaid : Prop := sumBackUptoRow.holds Try.pinned (OpenSpec.upto sumBackSpec)

/-- 'joistlaw04.SumPlaces', WHERE WHAT IT READS IS OF BULK AT MOST 1048576: true; the input reads as it did. -/
def sumPlacesUptoRow : OpenClaim := { program := "ytjfmnjhkpkcakaa", sum := "07397858ed4d66a4d62f6ab75b1b91d741ca47edee15b039dcb13006071a2bf1", func := "joist/joistlaw04.SumPlaces", spec := "sumPlaces", unfollowed := true, recurses := true, apart := false, narrowed := true }
def SumPlacesUptoSaid : Prop := sumPlacesUptoRow.holds Try.pinned (OpenSpec.upto sumPlacesSpec)

end Rows
end Go.Proofs.Ytjfmnjhkpkcakaa
