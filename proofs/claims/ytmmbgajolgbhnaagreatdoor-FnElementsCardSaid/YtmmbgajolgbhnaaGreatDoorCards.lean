/-
  DERIVED. GIVEN WITH THE SEED: THE CARDS: each row of YtmmbgajolgbhnaaGreatDoorRows.lean that lists a variable, with what it lists TIED to the program's text (the seventh form; the later family's looks); each row that meets fmt, with fmt's text TOLD by the authors' own Lean function (tested against real Go, not proved from fmt's source: count such statements apart). THE CARD IS WHAT COUNTS. Prove the row's statement (the work); the ties are given (YtmmbgajolgbhnaaGreatDoorTie.lean); close each card by the builder's one call (the guide's Derived/Test/ToyasCard.lean, 'card_holds'). Laid BY PROGRAM, IN A SANDBOX (cutbox-door.mjs). By AI agents, Wed Nov 11 2026. No macro, syntax, notation, axiom, sorry.
-/
import Derived.Test.YtmmbgajolgbhnaaGreatDoorRows
import GoSem.ClaimSeven
namespace Go.Proofs.YtmmbgajolgbhnaaGreatDoor
namespace Rows

/-- THE TIED CARD OF 'laws.FnExactConvertElement'. -/
def fnExactConvertElementCard : Claim7 := { stood := { row := fnExactConvertElementRow, standIns := [], harness := (true, "dea63e84e194b91740a22cd9944ede8230fa63f6c00b4a14d397277d7c588e60"), looks := true }, kinds := [], alts := [], laidByText := true, laidKinds := [.data, .pinned], laidTests := true, laidLooks := .later }
def FnExactConvertElementCardSaid : Prop := Claim7.holds Tryz.pinned (.plain (OpenSpec.ofChange fnExactConvertElementSpec)) fnExactConvertElementCard

/-- THE TIED CARD OF 'laws.FnExactConvertBytes'. -/
def fnExactConvertBytesCard : Claim7 := { stood := { row := fnExactConvertBytesRow, standIns := [], harness := (true, "dea63e84e194b91740a22cd9944ede8230fa63f6c00b4a14d397277d7c588e60"), looks := true }, kinds := [], alts := [], laidByText := true, laidKinds := [.data, .pinned], laidTests := true, laidLooks := .later }
def FnExactConvertBytesCardSaid : Prop := Claim7.holds Tryz.pinned (.plain (OpenSpec.ofChange fnExactConvertBytesSpec)) fnExactConvertBytesCard

/-- THE TIED CARD OF 'laws.FnSwap'. -/
def fnSwapCard : Claim7 := { stood := { row := fnSwapRow, standIns := [], harness := (true, "dea63e84e194b91740a22cd9944ede8230fa63f6c00b4a14d397277d7c588e60"), looks := true }, kinds := [], alts := [], laidByText := true, laidKinds := [.data, .data, .data, .data, .pinned], laidTests := true, laidLooks := .later }
def FnSwapCardSaid : Prop := Claim7.holds Tryz.pinned (.plain (OpenSpec.ofChange fnSwapSpec)) fnSwapCard

/-- THE TIED CARD OF 'laws.FnConvert'. -/
def fnConvertCard : Claim7 := { stood := { row := fnConvertRow, standIns := [], harness := (true, "dea63e84e194b91740a22cd9944ede8230fa63f6c00b4a14d397277d7c588e60"), looks := true }, kinds := [], alts := [], laidByText := true, laidKinds := [.data, .pinned], laidTests := true, laidLooks := .later }
def FnConvertCardSaid : Prop := Claim7.holds Tryz.pinned (.plain (OpenSpec.ofChange fnConvertSpec)) fnConvertCard

/-- THE TIED CARD OF 'laws.FnExactReadElement'. -/
def fnExactReadElementCard : Claim7 := { stood := { row := fnExactReadElementRow, standIns := [], harness := (true, "dea63e84e194b91740a22cd9944ede8230fa63f6c00b4a14d397277d7c588e60"), looks := true }, kinds := [], alts := [], laidByText := true, laidKinds := [.data, .data, .data, .data, .sentinel, .sentinel, .pinned], laidTests := true, laidLooks := .later }
def FnExactReadElementCardSaid : Prop := Claim7.holds Tryz.pinned (.plain (OpenSpec.ofChange fnExactReadElementSpec)) fnExactReadElementCard

/-- THE TIED CARD OF 'laws.FnElements'. -/
def fnElementsCard : Claim7 := { stood := { row := fnElementsRow, standIns := [], harness := (true, "dea63e84e194b91740a22cd9944ede8230fa63f6c00b4a14d397277d7c588e60"), looks := true }, kinds := [], alts := [], laidByText := true, laidKinds := [.data, .data, .data, .data, .sentinel, .sentinel, .pinned], laidTests := true, laidLooks := .later }
def FnElementsCardSaid : Prop := Claim7.holds Tryz.pinned (.plain (OpenSpec.ofChange fnElementsSpec)) fnElementsCard

/-- THE SECOND FORM's CARD OF 'laws.FnExactConvertElement'. -/
def fnExactConvertElementUptoCard : Claim7 := { stood := { row := fnExactConvertElementUptoRow, standIns := [], harness := (true, "dea63e84e194b91740a22cd9944ede8230fa63f6c00b4a14d397277d7c588e60"), looks := true }, kinds := [], alts := [], laidByText := true, laidKinds := [.data, .pinned], laidTests := true, laidLooks := .later }
def FnExactConvertElementUptoCardSaid : Prop := Claim7.holds Tryz.pinned (.plain (OpenSpec.upto fnExactConvertElementSpec)) fnExactConvertElementUptoCard

/-- THE SECOND FORM's CARD OF 'laws.FnExactConvertBytes'. -/
def fnExactConvertBytesUptoCard : Claim7 := { stood := { row := fnExactConvertBytesUptoRow, standIns := [], harness := (true, "dea63e84e194b91740a22cd9944ede8230fa63f6c00b4a14d397277d7c588e60"), looks := true }, kinds := [], alts := [], laidByText := true, laidKinds := [.data, .pinned], laidTests := true, laidLooks := .later }
def FnExactConvertBytesUptoCardSaid : Prop := Claim7.holds Tryz.pinned (.plain (OpenSpec.upto fnExactConvertBytesSpec)) fnExactConvertBytesUptoCard

/-- THE SECOND FORM's CARD OF 'laws.FnSwap'. -/
def fnSwapUptoCard : Claim7 := { stood := { row := fnSwapUptoRow, standIns := [], harness := (true, "dea63e84e194b91740a22cd9944ede8230fa63f6c00b4a14d397277d7c588e60"), looks := true }, kinds := [], alts := [], laidByText := true, laidKinds := [.data, .data, .data, .data, .pinned], laidTests := true, laidLooks := .later }
def FnSwapUptoCardSaid : Prop := Claim7.holds Tryz.pinned (.plain (OpenSpec.upto fnSwapSpec)) fnSwapUptoCard

/-- THE SECOND FORM's CARD OF 'laws.FnConvert'. -/
def fnConvertUptoCard : Claim7 := { stood := { row := fnConvertUptoRow, standIns := [], harness := (true, "dea63e84e194b91740a22cd9944ede8230fa63f6c00b4a14d397277d7c588e60"), looks := true }, kinds := [], alts := [], laidByText := true, laidKinds := [.data, .pinned], laidTests := true, laidLooks := .later }
def FnConvertUptoCardSaid : Prop := Claim7.holds Tryz.pinned (.plain (OpenSpec.upto fnConvertSpec)) fnConvertUptoCard

/-- THE SECOND FORM's CARD OF 'laws.FnExactReadElement'. -/
def fnExactReadElementUptoCard : Claim7 := { stood := { row := fnExactReadElementUptoRow, standIns := [], harness := (true, "dea63e84e194b91740a22cd9944ede8230fa63f6c00b4a14d397277d7c588e60"), looks := true }, kinds := [], alts := [], laidByText := true, laidKinds := [.data, .data, .data, .data, .sentinel, .sentinel, .pinned], laidTests := true, laidLooks := .later }
def FnExactReadElementUptoCardSaid : Prop := Claim7.holds Tryz.pinned (.plain (OpenSpec.upto fnExactReadElementSpec)) fnExactReadElementUptoCard

/-- THE SECOND FORM's CARD OF 'laws.FnElements'. -/
def fnElementsUptoCard : Claim7 := { stood := { row := fnElementsUptoRow, standIns := [], harness := (true, "dea63e84e194b91740a22cd9944ede8230fa63f6c00b4a14d397277d7c588e60"), looks := true }, kinds := [], alts := [], laidByText := true, laidKinds := [.data, .data, .data, .data, .sentinel, .sentinel, .pinned], laidTests := true, laidLooks := .later }
def FnElementsUptoCardSaid : Prop := Claim7.holds Tryz.pinned (.plain (OpenSpec.upto fnElementsSpec)) fnElementsUptoCard
end Rows
end Go.Proofs.YtmmbgajolgbhnaaGreatDoor
