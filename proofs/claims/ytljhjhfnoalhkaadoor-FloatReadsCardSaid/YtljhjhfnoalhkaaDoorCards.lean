/-
  DERIVED. GIVEN WITH THE SEED: THE CARDS: each row of YtljhjhfnoalhkaaDoorRows.lean that lists a variable, with what it lists TIED to the program's text (the seventh form; the later family's looks); each row that meets fmt, with fmt's text TOLD by the authors' own Lean function (tested against real Go, not proved from fmt's source: count such statements apart). THE CARD IS WHAT COUNTS. Prove the row's statement (the work); the ties are given (YtljhjhfnoalhkaaDoorTie.lean); close each card by the builder's one call (the guide's Derived/Test/ToyasCard.lean, 'card_holds'). Laid BY PROGRAM, IN A SANDBOX (cutbox-door.mjs). By AI agents, Wed Nov 11 2026. No macro, syntax, notation, axiom, sorry.
-/
import Derived.Test.YtljhjhfnoalhkaaDoorRows
import GoSem.ClaimSeven
namespace Go.Proofs.YtljhjhfnoalhkaaDoor
namespace Rows

/-- THE TIED CARD OF 'joistlaw01.FloatAsks'. -/
def floatAsksCard : Claim7 := { stood := { row := floatAsksRow, standIns := [], harness := (true, "365da04ad87d8f2883524ffe713c9027292b546d136265aac298fbfbeb61678b"), looks := true }, kinds := [], alts := [], laidByText := true, laidKinds := [.data, .data, .data, .sentinel, .sentinel], laidTests := true, laidLooks := .later }
def FloatAsksCardSaid : Prop := Claim7.holds Tryd.pinned (.plain (OpenSpec.ofChange floatAsksSpec)) floatAsksCard

/-- THE TIED CARD OF 'joistlaw01.FloatBits'. -/
def floatBitsCard : Claim7 := { stood := { row := floatBitsRow, standIns := [], harness := (true, "365da04ad87d8f2883524ffe713c9027292b546d136265aac298fbfbeb61678b"), looks := true }, kinds := [], alts := [], laidByText := true, laidKinds := [.data, .data, .data, .sentinel, .sentinel], laidTests := true, laidLooks := .later }
def FloatBitsCardSaid : Prop := Claim7.holds Tryd.pinned (.plain (OpenSpec.ofChange floatBitsSpec)) floatBitsCard

/-- THE TIED CARD OF 'joistlaw01.FloatOrder'. -/
def floatOrderCard : Claim7 := { stood := { row := floatOrderRow, standIns := [], harness := (true, "365da04ad87d8f2883524ffe713c9027292b546d136265aac298fbfbeb61678b"), looks := true }, kinds := [], alts := [], laidByText := true, laidKinds := [.data, .data, .data, .sentinel, .sentinel], laidTests := true, laidLooks := .later }
def FloatOrderCardSaid : Prop := Claim7.holds Tryd.pinned (.plain (OpenSpec.ofChange floatOrderSpec)) floatOrderCard

/-- THE TIED CARD OF 'joistlaw01.FloatSigns'. -/
def floatSignsCard : Claim7 := { stood := { row := floatSignsRow, standIns := [], harness := (true, "365da04ad87d8f2883524ffe713c9027292b546d136265aac298fbfbeb61678b"), looks := true }, kinds := [], alts := [], laidByText := true, laidKinds := [.data, .data, .data, .sentinel, .sentinel], laidTests := true, laidLooks := .later }
def FloatSignsCardSaid : Prop := Claim7.holds Tryd.pinned (.plain (OpenSpec.ofChange floatSignsSpec)) floatSignsCard

/-- THE TIED CARD OF 'joistlaw01.FloatReads'. -/
def floatReadsCard : Claim7 := { stood := { row := floatReadsRow, standIns := [], harness := (true, "365da04ad87d8f2883524ffe713c9027292b546d136265aac298fbfbeb61678b"), looks := true }, kinds := [], alts := [], laidByText := true, laidKinds := [.data, .data, .data, .sentinel, .sentinel], laidTests := true, laidLooks := .later }
def FloatReadsCardSaid : Prop := Claim7.holds Tryd.pinned (.plain (OpenSpec.ofChange floatReadsSpec)) floatReadsCard

/-- THE TIED CARD OF 'joistlaw01.FloatBytes'. -/
def floatBytesCard : Claim7 := { stood := { row := floatBytesRow, standIns := [], harness := (true, "365da04ad87d8f2883524ffe713c9027292b546d136265aac298fbfbeb61678b"), looks := true }, kinds := [], alts := [], laidByText := true, laidKinds := [.data, .data, .data, .sentinel, .sentinel], laidTests := true, laidLooks := .later }
def FloatBytesCardSaid : Prop := Claim7.holds Tryd.pinned (.plain (OpenSpec.ofChange floatBytesSpec)) floatBytesCard

/-- THE SECOND FORM's CARD OF 'joistlaw01.FloatAsks'. -/
def floatAsksUptoCard : Claim7 := { stood := { row := floatAsksUptoRow, standIns := [], harness := (true, "365da04ad87d8f2883524ffe713c9027292b546d136265aac298fbfbeb61678b"), looks := true }, kinds := [], alts := [], laidByText := true, laidKinds := [.data, .data, .data, .sentinel, .sentinel], laidTests := true, laidLooks := .later }
def FloatAsksUptoCardSaid : Prop := Claim7.holds Tryd.pinned (.plain (OpenSpec.upto floatAsksSpec)) floatAsksUptoCard

/-- THE SECOND FORM's CARD OF 'joistlaw01.FloatBits'. -/
def floatBitsUptoCard : Claim7 := { stood := { row := floatBitsUptoRow, standIns := [], harness := (true, "365da04ad87d8f2883524ffe713c9027292b546d136265aac298fbfbeb61678b"), looks := true }, kinds := [], alts := [], laidByText := true, laidKinds := [.data, .data, .data, .sentinel, .sentinel], laidTests := true, laidLooks := .later }
def FloatBitsUptoCardSaid : Prop := Claim7.holds Tryd.pinned (.plain (OpenSpec.upto floatBitsSpec)) floatBitsUptoCard

/-- THE SECOND FORM's CARD OF 'joistlaw01.FloatOrder'. -/
def floatOrderUptoCard : Claim7 := { stood := { row := floatOrderUptoRow, standIns := [], harness := (true, "365da04ad87d8f2883524ffe713c9027292b546d136265aac298fbfbeb61678b"), looks := true }, kinds := [], alts := [], laidByText := true, laidKinds := [.data, .data, .data, .sentinel, .sentinel], laidTests := true, laidLooks := .later }
def FloatOrderUptoCardSaid : Prop := Claim7.holds Tryd.pinned (.plain (OpenSpec.upto floatOrderSpec)) floatOrderUptoCard

/-- THE SECOND FORM's CARD OF 'joistlaw01.FloatSigns'. -/
def floatSignsUptoCard : Claim7 := { stood := { row := floatSignsUptoRow, standIns := [], harness := (true, "365da04ad87d8f2883524ffe713c9027292b546d136265aac298fbfbeb61678b"), looks := true }, kinds := [], alts := [], laidByText := true, laidKinds := [.data, .data, .data, .sentinel, .sentinel], laidTests := true, laidLooks := .later }
def FloatSignsUptoCardSaid : Prop := Claim7.holds Tryd.pinned (.plain (OpenSpec.upto floatSignsSpec)) floatSignsUptoCard

/-- THE SECOND FORM's CARD OF 'joistlaw01.FloatReads'. -/
def floatReadsUptoCard : Claim7 := { stood := { row := floatReadsUptoRow, standIns := [], harness := (true, "365da04ad87d8f2883524ffe713c9027292b546d136265aac298fbfbeb61678b"), looks := true }, kinds := [], alts := [], laidByText := true, laidKinds := [.data, .data, .data, .sentinel, .sentinel], laidTests := true, laidLooks := .later }
def FloatReadsUptoCardSaid : Prop := Claim7.holds Tryd.pinned (.plain (OpenSpec.upto floatReadsSpec)) floatReadsUptoCard

/-- THE SECOND FORM's CARD OF 'joistlaw01.FloatBytes'. -/
def floatBytesUptoCard : Claim7 := { stood := { row := floatBytesUptoRow, standIns := [], harness := (true, "365da04ad87d8f2883524ffe713c9027292b546d136265aac298fbfbeb61678b"), looks := true }, kinds := [], alts := [], laidByText := true, laidKinds := [.data, .data, .data, .sentinel, .sentinel], laidTests := true, laidLooks := .later }
def FloatBytesUptoCardSaid : Prop := Claim7.holds Tryd.pinned (.plain (OpenSpec.upto floatBytesSpec)) floatBytesUptoCard
end Rows
end Go.Proofs.YtljhjhfnoalhkaaDoor
