/-
  No cell of these rows narrows 'for every input' (looked for: loops, veiled, ifaces, maps, wideKeys, modest, calm, conditions, laid).
  DERIVED. THE GIVEN ROWS OF THIS SEAT. 5 by the template 'for every input the law returns true; each argument reads behind the call as it read before'; 0 by the template 'total and deterministic' (their statements: YtfadanmfelbfiaaTotals.lean).
  GIVEN WITH THE SEED: the statements are not yours to turn. If you find one false, say at which input.
  Laid BY PROGRAM, IN A SANDBOX (cutbox-rows.mjs): the forced cells as the released guide's own fill.sh prints them over the translation c1ec34683544a107… (all of the seat's roots in one cut). By AI agents, Wed Nov 11 2026. No macro, syntax, notation, axiom, sorry.
-/
import Derived.Test.YtfadanmfelbfiaaChecked
import GoSem.Claim
import GoSem.ClaimJoined
import GoSem.ClaimMapViews
import Derived.JoinedTies
import Derived.KernelRfl
namespace Go.Proofs.Ytfadanmfelbfiaa
/- THE CELL 'sum', in the pinned program and in every row, IS THE sha256 OF THE DUMP (.gsa) THAT YtfadanmfelbfiaaProg.lean LOADS. Nothing in Lean hashes anything: it is a label: what it is worth is what the hold of that sum in a sandbox is worth. -/
noncomputable def Try.pinned : Pinned := { name := "ytfadanmfelbfiaa", sum := "c1ec34683544a1070cdd4d6aeee221ddff1aa6884e934e55f2b7c15132cd54ae", checked := Try.checked }
namespace Rows
def none {H : Type} : Left H := { results := [], args := [] }

/-- 'joistlaw21.LeaseClocks': WHATEVER THE INPUT: true; the input reads as it did. -/
def leaseClocksSpec : ChangeSpec := { name := "leaseClocks", fn := fun _ => fun
  | [d1, d2, d3] => { results := [.lit (.bool true)], args := [d1, d2, d3] }
  | _ => none }
def leaseClocksRow : OpenClaim := { program := "ytfadanmfelbfiaa", sum := "c1ec34683544a1070cdd4d6aeee221ddff1aa6884e934e55f2b7c15132cd54ae", func := "joist/joistlaw21.LeaseClocks", spec := "leaseClocks", unfollowed := true, recurses := true, apart := false }
def LeaseClocksSaid : Prop := leaseClocksRow.holds Try.pinned (OpenSpec.ofChange leaseClocksSpec)

/-- ITS FALSE NEIGHBOUR: 'it returns false'. Refute it at one input. -/
def leaseClocksWrong : ChangeSpec := { name := "leaseClocks", fn := fun _ => fun
  | [d1, d2, d3] => { results := [.lit (.bool false)], args := [d1, d2, d3] }
  | _ => none }
def LeaseClocksWrongFalsely : Prop := leaseClocksRow.holds Try.pinned (OpenSpec.ofChange leaseClocksWrong)

/-- 'joistlaw21.LeaseGives': WHATEVER THE INPUT: true; the input reads as it did. -/
def leaseGivesSpec : ChangeSpec := { name := "leaseGives", fn := fun _ => fun
  | [d1, d2, d3, d4] => { results := [.lit (.bool true)], args := [d1, d2, d3, d4] }
  | _ => none }
def leaseGivesRow : OpenClaim := { program := "ytfadanmfelbfiaa", sum := "c1ec34683544a1070cdd4d6aeee221ddff1aa6884e934e55f2b7c15132cd54ae", func := "joist/joistlaw21.LeaseGives", spec := "leaseGives", unfollowed := true, recurses := true, apart := false }
def LeaseGivesSaid : Prop := leaseGivesRow.holds Try.pinned (OpenSpec.ofChange leaseGivesSpec)

/-- ITS FALSE NEIGHBOUR: 'it returns false'. Refute it at one input. -/
def leaseGivesWrong : ChangeSpec := { name := "leaseGives", fn := fun _ => fun
  | [d1, d2, d3, d4] => { results := [.lit (.bool false)], args := [d1, d2, d3, d4] }
  | _ => none }
def LeaseGivesWrongFalsely : Prop := leaseGivesRow.holds Try.pinned (OpenSpec.ofChange leaseGivesWrong)

/-- 'joistlaw21.LeaseSafe': WHATEVER THE INPUT: true; the input reads as it did. -/
def leaseSafeSpec : ChangeSpec := { name := "leaseSafe", fn := fun _ => fun
  | [d1, d2, d3, d4, d5] => { results := [.lit (.bool true)], args := [d1, d2, d3, d4, d5] }
  | _ => none }
def leaseSafeRow : OpenClaim := { program := "ytfadanmfelbfiaa", sum := "c1ec34683544a1070cdd4d6aeee221ddff1aa6884e934e55f2b7c15132cd54ae", func := "joist/joistlaw21.LeaseSafe", spec := "leaseSafe", unfollowed := true, recurses := true, apart := false }
def LeaseSafeSaid : Prop := leaseSafeRow.holds Try.pinned (OpenSpec.ofChange leaseSafeSpec)

/-- ITS FALSE NEIGHBOUR: 'it returns false'. Refute it at one input. -/
def leaseSafeWrong : ChangeSpec := { name := "leaseSafe", fn := fun _ => fun
  | [d1, d2, d3, d4, d5] => { results := [.lit (.bool false)], args := [d1, d2, d3, d4, d5] }
  | _ => none }
def LeaseSafeWrongFalsely : Prop := leaseSafeRow.holds Try.pinned (OpenSpec.ofChange leaseSafeWrong)

/-- 'joistlaw21.LeaseFree': WHATEVER THE INPUT: true; the input reads as it did. -/
def leaseFreeSpec : ChangeSpec := { name := "leaseFree", fn := fun _ => fun
  | [d1, d2, d3] => { results := [.lit (.bool true)], args := [d1, d2, d3] }
  | _ => none }
def leaseFreeRow : OpenClaim := { program := "ytfadanmfelbfiaa", sum := "c1ec34683544a1070cdd4d6aeee221ddff1aa6884e934e55f2b7c15132cd54ae", func := "joist/joistlaw21.LeaseFree", spec := "leaseFree", unfollowed := true, recurses := true, apart := false }
def LeaseFreeSaid : Prop := leaseFreeRow.holds Try.pinned (OpenSpec.ofChange leaseFreeSpec)

/-- ITS FALSE NEIGHBOUR: 'it returns false'. Refute it at one input. -/
def leaseFreeWrong : ChangeSpec := { name := "leaseFree", fn := fun _ => fun
  | [d1, d2, d3] => { results := [.lit (.bool false)], args := [d1, d2, d3] }
  | _ => none }
def LeaseFreeWrongFalsely : Prop := leaseFreeRow.holds Try.pinned (OpenSpec.ofChange leaseFreeWrong)

/-- 'joistlaw21.LeaseElder': WHATEVER THE INPUT: true; the input reads as it did. -/
def leaseElderSpec : ChangeSpec := { name := "leaseElder", fn := fun _ => fun
  | [d1, d2, d3] => { results := [.lit (.bool true)], args := [d1, d2, d3] }
  | _ => none }
def leaseElderRow : OpenClaim := { program := "ytfadanmfelbfiaa", sum := "c1ec34683544a1070cdd4d6aeee221ddff1aa6884e934e55f2b7c15132cd54ae", func := "joist/joistlaw21.LeaseElder", spec := "leaseElder", unfollowed := true, recurses := true, apart := false }
def LeaseElderSaid : Prop := leaseElderRow.holds Try.pinned (OpenSpec.ofChange leaseElderSpec)

/-- ITS FALSE NEIGHBOUR: 'it returns false'. Refute it at one input. -/
def leaseElderWrong : ChangeSpec := { name := "leaseElder", fn := fun _ => fun
  | [d1, d2, d3] => { results := [.lit (.bool false)], args := [d1, d2, d3] }
  | _ => none }
def LeaseElderWrongFalsely : Prop := leaseElderRow.holds Try.pinned (OpenSpec.ofChange leaseElderWrong)

/- THE SECOND FORM. 'bulk': how many values and letters a reading holds, each counted each time it is reached (what is shared counts as often as it is met; a slice's spare places count too). A statement '..UptoSaid' is the law's where the arguments, and the package variables that the reading takes, are together of bulk at most 1048576: NARROWER than '..Said'. Prove '..Said' where nothing that the law and all that it calls make is longer than what came in: it says more and counts as full. Else prove '..UptoSaid'. A law counts once. -/
mutual
def uptoBulk {H : Type} : DataW H → Nat
  | .lit (.string bytes) => bytes.length + 1
  | .lit _ => 1
  | .nil => 1
  | .ptr d => uptoBulk d + 1
  | .slice elems spare => uptoBulkAll elems + uptoBulkAll spare + 1
  | .agg parts => uptoBulkAll parts + 1
  | .iface _ d => uptoBulk d + 1
  | .map entries => uptoBulkEntries entries + 1
  | .held _ => 1
def uptoBulkAll {H : Type} : List (DataW H) → Nat
  | [] => 0
  | d :: r => uptoBulk d + uptoBulkAll r
def uptoBulkEntries {H : Type} : List (Lit × DataW H) → Nat
  | [] => 0
  | x :: r => uptoBulkEntry x + uptoBulkEntries r
def uptoBulkEntry {H : Type} : Lit × DataW H → Nat
  | (.string bytes, d) => bytes.length + uptoBulk d + 1
  | (_, d) => uptoBulk d + 1
 end
def uptoSmall : (H : Type) → List (DataW H) → Bool := fun _ ds => decide (uptoBulkAll ds ≤ 1048576)
def OpenSpec.upto (s : _root_.Go.ChangeSpec) : _root_.Go.OpenSpec := { _root_.Go.OpenSpec.ofChange s with cond := some uptoSmall }

/-- 'joistlaw21.LeaseClocks', WHERE WHAT IT READS IS OF BULK AT MOST 1048576: true; the input reads as it did. -/
def leaseClocksUptoRow : OpenClaim := { program := "ytfadanmfelbfiaa", sum := "c1ec34683544a1070cdd4d6aeee221ddff1aa6884e934e55f2b7c15132cd54ae", func := "joist/joistlaw21.LeaseClocks", spec := "leaseClocks", unfollowed := true, recurses := true, apart := false, narrowed := true }
def LeaseClocksUptoSaid : Prop := leaseClocksUptoRow.holds Try.pinned (OpenSpec.upto leaseClocksSpec)

/-- 'joistlaw21.LeaseGives', WHERE WHAT IT READS IS OF BULK AT MOST 1048576: true; the input reads as it did. -/
def leaseGivesUptoRow : OpenClaim := { program := "ytfadanmfelbfiaa", sum := "c1ec34683544a1070cdd4d6aeee221ddff1aa6884e934e55f2b7c15132cd54ae", func := "joist/joistlaw21.LeaseGives", spec := "leaseGives", unfollowed := true, recurses := true, apart := false, narrowed := true }
def LeaseGivesUptoSaid : Prop := leaseGivesUptoRow.holds Try.pinned (OpenSpec.upto leaseGivesSpec)

/-- 'joistlaw21.LeaseSafe', WHERE WHAT IT READS IS OF BULK AT MOST 1048576: true; the input reads as it did. -/
def leaseSafeUptoRow : OpenClaim := { program := "ytfadanmfelbfiaa", sum := "c1ec34683544a1070cdd4d6aeee221ddff1aa6884e934e55f2b7c15132cd54ae", func := "joist/joistlaw21.LeaseSafe", spec := "leaseSafe", unfollowed := true, recurses := true, apart := false, narrowed := true }
def LeaseSafeUptoSaid : Prop := leaseSafeUptoRow.holds Try.pinned (OpenSpec.upto leaseSafeSpec)

/-- 'joistlaw21.LeaseFree', WHERE WHAT IT READS IS OF BULK AT MOST 1048576: true; the input reads as it did. -/
def leaseFreeUptoRow : OpenClaim := { program := "ytfadanmfelbfiaa", sum := "c1ec34683544a1070cdd4d6aeee221ddff1aa6884e934e55f2b7c15132cd54ae", func := "joist/joistlaw21.LeaseFree", spec := "leaseFree", unfollowed := true, recurses := true, apart := false, narrowed := true }
def LeaseFreeUptoSaid : Prop := leaseFreeUptoRow.holds Try.pinned (OpenSpec.upto leaseFreeSpec)

/-- 'joistlaw21.LeaseElder', WHERE WHAT IT READS IS OF BULK AT MOST 1048576: true; the input reads as it did. -/
def leaseElderUptoRow : OpenClaim := { program := "ytfadanmfelbfiaa", sum := "c1ec34683544a1070cdd4d6aeee221ddff1aa6884e934e55f2b7c15132cd54ae", func := "joist/joistlaw21.LeaseElder", spec := "leaseElder", unfollowed := true, recurses := true, apart := false, narrowed := true }
def LeaseElderUptoSaid : Prop := leaseElderUptoRow.holds Try.pinned (OpenSpec.upto leaseElderSpec)

end Rows
end Go.Proofs.Ytfadanmfelbfiaa
