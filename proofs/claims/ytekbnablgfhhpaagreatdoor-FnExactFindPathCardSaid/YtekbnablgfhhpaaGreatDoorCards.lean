/-
  DERIVED. GIVEN WITH THE SEED: THE CARDS: each row of YtekbnablgfhhpaaGreatDoorRows.lean that lists a variable, with what it lists TIED to the program's text (the seventh form; the later family's looks); each row that meets fmt, with fmt's text TOLD by the authors' own Lean function (tested against real Go, not proved from fmt's source: count such statements apart). THE CARD IS WHAT COUNTS. Prove the row's statement (the work); the ties are given (YtekbnablgfhhpaaGreatDoorTie.lean); close each card by the builder's one call (the guide's Derived/Test/ToyasCard.lean, 'card_holds'). Laid BY PROGRAM, IN A SANDBOX (cutbox-door.mjs). By AI agents, Wed Nov 11 2026. No macro, syntax, notation, axiom, sorry.
-/
import Derived.Test.YtekbnablgfhhpaaGreatDoorRows
import GoSem.ClaimSeven
namespace Go.Proofs.YtekbnablgfhhpaaGreatDoor
namespace Rows

/-- THE TIED CARD OF 'laws.FnExactFindPath'. -/
def fnExactFindPathCard : Claim7 := { stood := { row := fnExactFindPathRow, standIns := [], harness := (true, "052b4d340594f5670812c0c7f20789137ffce1e72dcf46a79f4573e5a87dc094"), looks := false }, kinds := [], alts := [], laidByText := true, laidKinds := [.data, .pinned], laidTests := true, laidLooks := .later }
def FnExactFindPathCardSaid : Prop := Claim7.holds Tryz.pinned (.plain (OpenSpec.ofChange fnExactFindPathSpec)) fnExactFindPathCard

/-- THE TIED CARD OF 'laws.FnExactWalkStore'. -/
def fnExactWalkStoreCard : Claim7 := { stood := { row := fnExactWalkStoreRow, standIns := [], harness := (true, "052b4d340594f5670812c0c7f20789137ffce1e72dcf46a79f4573e5a87dc094"), looks := false }, kinds := [], alts := [], laidByText := true, laidKinds := [.data, .pinned], laidTests := true, laidLooks := .later }
def FnExactWalkStoreCardSaid : Prop := Claim7.holds Tryz.pinned (.plain (OpenSpec.ofChange fnExactWalkStoreSpec)) fnExactWalkStoreCard

/-- THE TIED CARD OF 'laws.FnExactObjectsOf'. -/
def fnExactObjectsOfCard : Claim7 := { stood := { row := fnExactObjectsOfRow, standIns := [], harness := (true, "052b4d340594f5670812c0c7f20789137ffce1e72dcf46a79f4573e5a87dc094"), looks := false }, kinds := [], alts := [], laidByText := true, laidKinds := [.data, .pinned], laidTests := true, laidLooks := .later }
def FnExactObjectsOfCardSaid : Prop := Claim7.holds Tryz.pinned (.plain (OpenSpec.ofChange fnExactObjectsOfSpec)) fnExactObjectsOfCard

/-- THE SECOND FORM's CARD OF 'laws.FnExactFindPath'. -/
def fnExactFindPathUptoCard : Claim7 := { stood := { row := fnExactFindPathUptoRow, standIns := [], harness := (true, "052b4d340594f5670812c0c7f20789137ffce1e72dcf46a79f4573e5a87dc094"), looks := false }, kinds := [], alts := [], laidByText := true, laidKinds := [.data, .pinned], laidTests := true, laidLooks := .later }
def FnExactFindPathUptoCardSaid : Prop := Claim7.holds Tryz.pinned (.plain (OpenSpec.upto fnExactFindPathSpec)) fnExactFindPathUptoCard

/-- THE SECOND FORM's CARD OF 'laws.FnExactWalkStore'. -/
def fnExactWalkStoreUptoCard : Claim7 := { stood := { row := fnExactWalkStoreUptoRow, standIns := [], harness := (true, "052b4d340594f5670812c0c7f20789137ffce1e72dcf46a79f4573e5a87dc094"), looks := false }, kinds := [], alts := [], laidByText := true, laidKinds := [.data, .pinned], laidTests := true, laidLooks := .later }
def FnExactWalkStoreUptoCardSaid : Prop := Claim7.holds Tryz.pinned (.plain (OpenSpec.upto fnExactWalkStoreSpec)) fnExactWalkStoreUptoCard

/-- THE SECOND FORM's CARD OF 'laws.FnExactObjectsOf'. -/
def fnExactObjectsOfUptoCard : Claim7 := { stood := { row := fnExactObjectsOfUptoRow, standIns := [], harness := (true, "052b4d340594f5670812c0c7f20789137ffce1e72dcf46a79f4573e5a87dc094"), looks := false }, kinds := [], alts := [], laidByText := true, laidKinds := [.data, .pinned], laidTests := true, laidLooks := .later }
def FnExactObjectsOfUptoCardSaid : Prop := Claim7.holds Tryz.pinned (.plain (OpenSpec.upto fnExactObjectsOfSpec)) fnExactObjectsOfUptoCard
end Rows
end Go.Proofs.YtekbnablgfhhpaaGreatDoor
