/-
  DERIVED. GIVEN WITH THE SEED: THE CARDS: each row of YtikpmlginojnhaaGreatDoorRows.lean that lists a variable, with what it lists TIED to the program's text (the seventh form; the later family's looks); each row that meets fmt, with fmt's text TOLD by the authors' own Lean function (tested against real Go, not proved from fmt's source: count such statements apart). THE CARD IS WHAT COUNTS. Prove the row's statement (the work); the ties are given (YtikpmlginojnhaaGreatDoorTie.lean); close each card by the builder's one call (the guide's Derived/Test/ToyasCard.lean, 'card_holds'). Laid BY PROGRAM, IN A SANDBOX (cutbox-door.mjs). By AI agents, Wed Nov 11 2026. No macro, syntax, notation, axiom, sorry.
-/
import Derived.Test.YtikpmlginojnhaaGreatDoorRows
import GoSem.ClaimSeven
namespace Go.Proofs.YtikpmlginojnhaaGreatDoor
namespace Rows

/-- THE TIED CARD OF 'joistlaw02.ValAsks'. -/
def valAsksCard : Claim7 := { stood := { row := valAsksRow, standIns := [], harness := (true, "22f707c6fadd0041abadfa9f62c0281f2aaf04ce417534c4005c685c97bc9ba3"), looks := true }, kinds := [], alts := [], laidByText := true, laidKinds := [.data, .data, .data, .data, .sentinel, .sentinel, .pinned], laidTests := true, laidLooks := .later }
def ValAsksCardSaid : Prop := Claim7.holds Tryz.pinned (.plain (OpenSpec.ofChange valAsksSpec)) valAsksCard

/-- THE TIED CARD OF 'joistlaw02.ValReads'. -/
def valReadsCard : Claim7 := { stood := { row := valReadsRow, standIns := [], harness := (true, "22f707c6fadd0041abadfa9f62c0281f2aaf04ce417534c4005c685c97bc9ba3"), looks := true }, kinds := [], alts := [], laidByText := true, laidKinds := [.data, .data, .data, .data, .sentinel, .sentinel, .pinned], laidTests := true, laidLooks := .later }
def ValReadsCardSaid : Prop := Claim7.holds Tryz.pinned (.plain (OpenSpec.ofChange valReadsSpec)) valReadsCard

/-- THE TIED CARD OF 'joistlaw02.ValBytes'. -/
def valBytesCard : Claim7 := { stood := { row := valBytesRow, standIns := [], harness := (true, "22f707c6fadd0041abadfa9f62c0281f2aaf04ce417534c4005c685c97bc9ba3"), looks := true }, kinds := [], alts := [], laidByText := true, laidKinds := [.data, .data, .data, .data, .sentinel, .sentinel, .pinned], laidTests := true, laidLooks := .later }
def ValBytesCardSaid : Prop := Claim7.holds Tryz.pinned (.plain (OpenSpec.ofChange valBytesSpec)) valBytesCard

/-- THE TIED CARD OF 'joistlaw02.ValBack'. -/
def valBackCard : Claim7 := { stood := { row := valBackRow, standIns := [], harness := (true, "22f707c6fadd0041abadfa9f62c0281f2aaf04ce417534c4005c685c97bc9ba3"), looks := true }, kinds := [], alts := [], laidByText := true, laidKinds := [.data, .data, .data, .data, .sentinel, .sentinel, .pinned], laidTests := true, laidLooks := .later }
def ValBackCardSaid : Prop := Claim7.holds Tryz.pinned (.plain (OpenSpec.ofChange valBackSpec)) valBackCard

/-- THE TIED CARD OF 'joistlaw02.ValOrder'. -/
def valOrderCard : Claim7 := { stood := { row := valOrderRow, standIns := [], harness := (true, "22f707c6fadd0041abadfa9f62c0281f2aaf04ce417534c4005c685c97bc9ba3"), looks := true }, kinds := [], alts := [], laidByText := true, laidKinds := [.data, .data, .data, .data, .sentinel, .sentinel, .pinned], laidTests := true, laidLooks := .later }
def ValOrderCardSaid : Prop := Claim7.holds Tryz.pinned (.plain (OpenSpec.ofChange valOrderSpec)) valOrderCard

/-- THE TIED CARD OF 'joistlaw02.ValKinds'. -/
def valKindsCard : Claim7 := { stood := { row := valKindsRow, standIns := [], harness := (true, "22f707c6fadd0041abadfa9f62c0281f2aaf04ce417534c4005c685c97bc9ba3"), looks := true }, kinds := [], alts := [], laidByText := true, laidKinds := [.data, .data, .data, .data, .sentinel, .sentinel, .pinned], laidTests := true, laidLooks := .later }
def ValKindsCardSaid : Prop := Claim7.holds Tryz.pinned (.plain (OpenSpec.ofChange valKindsSpec)) valKindsCard

/-- THE SECOND FORM's CARD OF 'joistlaw02.ValAsks'. -/
def valAsksUptoCard : Claim7 := { stood := { row := valAsksUptoRow, standIns := [], harness := (true, "22f707c6fadd0041abadfa9f62c0281f2aaf04ce417534c4005c685c97bc9ba3"), looks := true }, kinds := [], alts := [], laidByText := true, laidKinds := [.data, .data, .data, .data, .sentinel, .sentinel, .pinned], laidTests := true, laidLooks := .later }
def ValAsksUptoCardSaid : Prop := Claim7.holds Tryz.pinned (.plain (OpenSpec.upto valAsksSpec)) valAsksUptoCard

/-- THE SECOND FORM's CARD OF 'joistlaw02.ValReads'. -/
def valReadsUptoCard : Claim7 := { stood := { row := valReadsUptoRow, standIns := [], harness := (true, "22f707c6fadd0041abadfa9f62c0281f2aaf04ce417534c4005c685c97bc9ba3"), looks := true }, kinds := [], alts := [], laidByText := true, laidKinds := [.data, .data, .data, .data, .sentinel, .sentinel, .pinned], laidTests := true, laidLooks := .later }
def ValReadsUptoCardSaid : Prop := Claim7.holds Tryz.pinned (.plain (OpenSpec.upto valReadsSpec)) valReadsUptoCard

/-- THE SECOND FORM's CARD OF 'joistlaw02.ValBytes'. -/
def valBytesUptoCard : Claim7 := { stood := { row := valBytesUptoRow, standIns := [], harness := (true, "22f707c6fadd0041abadfa9f62c0281f2aaf04ce417534c4005c685c97bc9ba3"), looks := true }, kinds := [], alts := [], laidByText := true, laidKinds := [.data, .data, .data, .data, .sentinel, .sentinel, .pinned], laidTests := true, laidLooks := .later }
def ValBytesUptoCardSaid : Prop := Claim7.holds Tryz.pinned (.plain (OpenSpec.upto valBytesSpec)) valBytesUptoCard

/-- THE SECOND FORM's CARD OF 'joistlaw02.ValBack'. -/
def valBackUptoCard : Claim7 := { stood := { row := valBackUptoRow, standIns := [], harness := (true, "22f707c6fadd0041abadfa9f62c0281f2aaf04ce417534c4005c685c97bc9ba3"), looks := true }, kinds := [], alts := [], laidByText := true, laidKinds := [.data, .data, .data, .data, .sentinel, .sentinel, .pinned], laidTests := true, laidLooks := .later }
def ValBackUptoCardSaid : Prop := Claim7.holds Tryz.pinned (.plain (OpenSpec.upto valBackSpec)) valBackUptoCard

/-- THE SECOND FORM's CARD OF 'joistlaw02.ValOrder'. -/
def valOrderUptoCard : Claim7 := { stood := { row := valOrderUptoRow, standIns := [], harness := (true, "22f707c6fadd0041abadfa9f62c0281f2aaf04ce417534c4005c685c97bc9ba3"), looks := true }, kinds := [], alts := [], laidByText := true, laidKinds := [.data, .data, .data, .data, .sentinel, .sentinel, .pinned], laidTests := true, laidLooks := .later }
def ValOrderUptoCardSaid : Prop := Claim7.holds Tryz.pinned (.plain (OpenSpec.upto valOrderSpec)) valOrderUptoCard

/-- THE SECOND FORM's CARD OF 'joistlaw02.ValKinds'. -/
def valKindsUptoCard : Claim7 := { stood := { row := valKindsUptoRow, standIns := [], harness := (true, "22f707c6fadd0041abadfa9f62c0281f2aaf04ce417534c4005c685c97bc9ba3"), looks := true }, kinds := [], alts := [], laidByText := true, laidKinds := [.data, .data, .data, .data, .sentinel, .sentinel, .pinned], laidTests := true, laidLooks := .later }
def ValKindsUptoCardSaid : Prop := Claim7.holds Tryz.pinned (.plain (OpenSpec.upto valKindsSpec)) valKindsUptoCard
end Rows
end Go.Proofs.YtikpmlginojnhaaGreatDoor
