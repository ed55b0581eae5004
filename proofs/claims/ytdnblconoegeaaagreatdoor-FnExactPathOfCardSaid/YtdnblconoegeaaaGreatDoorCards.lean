/-
  DERIVED. GIVEN WITH THE SEED: THE CARDS: each row of YtdnblconoegeaaaGreatDoorRows.lean that lists a variable, with what it lists TIED to the program's text (the seventh form; the later family's looks); each row that meets fmt, with fmt's text TOLD by the authors' own Lean function (tested against real Go, not proved from fmt's source: count such statements apart). THE CARD IS WHAT COUNTS. Prove the row's statement (the work); the ties are given (YtdnblconoegeaaaGreatDoorTie.lean); close each card by the builder's one call (the guide's Derived/Test/ToyasCard.lean, 'card_holds'). Laid BY PROGRAM, IN A SANDBOX (cutbox-door.mjs). By AI agents, Wed Nov 11 2026. No macro, syntax, notation, axiom, sorry.
-/
import Derived.Test.YtdnblconoegeaaaGreatDoorRows
import GoSem.ClaimSeven
namespace Go.Proofs.YtdnblconoegeaaaGreatDoor
namespace Rows

/-- THE TIED CARD OF 'laws.FnExactWriteHeader'. -/
def fnExactWriteHeaderCard : Claim7 := { stood := { row := fnExactWriteHeaderRow, standIns := [], harness := (true, "e561c58dc825963a1e2242659193506247200e5a68859727cdf92b3832d3b399"), looks := false }, kinds := [], alts := [], laidByText := true, laidKinds := [.data, .pinned], laidTests := true, laidLooks := .later }
def FnExactWriteHeaderCardSaid : Prop := Claim7.holds Tryz.pinned (.plain (OpenSpec.ofChange fnExactWriteHeaderSpec)) fnExactWriteHeaderCard

/-- THE TIED CARD OF 'laws.FnExactAddSoftLink'. -/
def fnExactAddSoftLinkCard : Claim7 := { stood := { row := fnExactAddSoftLinkRow, standIns := [], harness := (true, "e561c58dc825963a1e2242659193506247200e5a68859727cdf92b3832d3b399"), looks := false }, kinds := [], alts := [], laidByText := true, laidKinds := [.data, .pinned], laidTests := true, laidLooks := .later }
def FnExactAddSoftLinkCardSaid : Prop := Claim7.holds Tryz.pinned (.plain (OpenSpec.ofChange fnExactAddSoftLinkSpec)) fnExactAddSoftLinkCard

/-- THE TIED CARD OF 'laws.FnExactAddLink'. -/
def fnExactAddLinkCard : Claim7 := { stood := { row := fnExactAddLinkRow, standIns := [], harness := (true, "e561c58dc825963a1e2242659193506247200e5a68859727cdf92b3832d3b399"), looks := false }, kinds := [], alts := [], laidByText := true, laidKinds := [.data, .pinned], laidTests := true, laidLooks := .later }
def FnExactAddLinkCardSaid : Prop := Claim7.holds Tryz.pinned (.plain (OpenSpec.ofChange fnExactAddLinkSpec)) fnExactAddLinkCard

/-- THE TIED CARD OF 'laws.FnExactCreateGroup'. -/
def fnExactCreateGroupCard : Claim7 := { stood := { row := fnExactCreateGroupRow, standIns := [], harness := (true, "e561c58dc825963a1e2242659193506247200e5a68859727cdf92b3832d3b399"), looks := false }, kinds := [], alts := [], laidByText := true, laidKinds := [.data, .pinned], laidTests := true, laidLooks := .later }
def FnExactCreateGroupCardSaid : Prop := Claim7.holds Tryz.pinned (.plain (OpenSpec.ofChange fnExactCreateGroupSpec)) fnExactCreateGroupCard

/-- THE TIED CARD OF 'laws.FnExactPathOf'. -/
def fnExactPathOfCard : Claim7 := { stood := { row := fnExactPathOfRow, standIns := [], harness := (true, "e561c58dc825963a1e2242659193506247200e5a68859727cdf92b3832d3b399"), looks := false }, kinds := [], alts := [], laidByText := true, laidKinds := [.data, .pinned], laidTests := true, laidLooks := .later }
def FnExactPathOfCardSaid : Prop := Claim7.holds Tryz.pinned (.plain (OpenSpec.ofChange fnExactPathOfSpec)) fnExactPathOfCard

/-- THE TIED CARD OF 'laws.FnExactRepairRefs'. -/
def fnExactRepairRefsCard : Claim7 := { stood := { row := fnExactRepairRefsRow, standIns := [], harness := (true, "e561c58dc825963a1e2242659193506247200e5a68859727cdf92b3832d3b399"), looks := false }, kinds := [], alts := [], laidByText := true, laidKinds := [.data, .pinned], laidTests := true, laidLooks := .later }
def FnExactRepairRefsCardSaid : Prop := Claim7.holds Tryz.pinned (.plain (OpenSpec.ofChange fnExactRepairRefsSpec)) fnExactRepairRefsCard

/-- THE TIED CARD OF 'laws.FnExactValidShell'. -/
def fnExactValidShellCard : Claim7 := { stood := { row := fnExactValidShellRow, standIns := [], harness := (true, "e561c58dc825963a1e2242659193506247200e5a68859727cdf92b3832d3b399"), looks := false }, kinds := [], alts := [], laidByText := true, laidKinds := [.data, .pinned], laidTests := true, laidLooks := .later }
def FnExactValidShellCardSaid : Prop := Claim7.holds Tryz.pinned (.plain (OpenSpec.ofChange fnExactValidShellSpec)) fnExactValidShellCard

/-- THE SECOND FORM's CARD OF 'laws.FnExactWriteHeader'. -/
def fnExactWriteHeaderUptoCard : Claim7 := { stood := { row := fnExactWriteHeaderUptoRow, standIns := [], harness := (true, "e561c58dc825963a1e2242659193506247200e5a68859727cdf92b3832d3b399"), looks := false }, kinds := [], alts := [], laidByText := true, laidKinds := [.data, .pinned], laidTests := true, laidLooks := .later }
def FnExactWriteHeaderUptoCardSaid : Prop := Claim7.holds Tryz.pinned (.plain (OpenSpec.upto fnExactWriteHeaderSpec)) fnExactWriteHeaderUptoCard

/-- THE SECOND FORM's CARD OF 'laws.FnExactAddSoftLink'. -/
def fnExactAddSoftLinkUptoCard : Claim7 := { stood := { row := fnExactAddSoftLinkUptoRow, standIns := [], harness := (true, "e561c58dc825963a1e2242659193506247200e5a68859727cdf92b3832d3b399"), looks := false }, kinds := [], alts := [], laidByText := true, laidKinds := [.data, .pinned], laidTests := true, laidLooks := .later }
def FnExactAddSoftLinkUptoCardSaid : Prop := Claim7.holds Tryz.pinned (.plain (OpenSpec.upto fnExactAddSoftLinkSpec)) fnExactAddSoftLinkUptoCard

/-- THE SECOND FORM's CARD OF 'laws.FnExactAddLink'. -/
def fnExactAddLinkUptoCard : Claim7 := { stood := { row := fnExactAddLinkUptoRow, standIns := [], harness := (true, "e561c58dc825963a1e2242659193506247200e5a68859727cdf92b3832d3b399"), looks := false }, kinds := [], alts := [], laidByText := true, laidKinds := [.data, .pinned], laidTests := true, laidLooks := .later }
def FnExactAddLinkUptoCardSaid : Prop := Claim7.holds Tryz.pinned (.plain (OpenSpec.upto fnExactAddLinkSpec)) fnExactAddLinkUptoCard

/-- THE SECOND FORM's CARD OF 'laws.FnExactCreateGroup'. -/
def fnExactCreateGroupUptoCard : Claim7 := { stood := { row := fnExactCreateGroupUptoRow, standIns := [], harness := (true, "e561c58dc825963a1e2242659193506247200e5a68859727cdf92b3832d3b399"), looks := false }, kinds := [], alts := [], laidByText := true, laidKinds := [.data, .pinned], laidTests := true, laidLooks := .later }
def FnExactCreateGroupUptoCardSaid : Prop := Claim7.holds Tryz.pinned (.plain (OpenSpec.upto fnExactCreateGroupSpec)) fnExactCreateGroupUptoCard

/-- THE SECOND FORM's CARD OF 'laws.FnExactPathOf'. -/
def fnExactPathOfUptoCard : Claim7 := { stood := { row := fnExactPathOfUptoRow, standIns := [], harness := (true, "e561c58dc825963a1e2242659193506247200e5a68859727cdf92b3832d3b399"), looks := false }, kinds := [], alts := [], laidByText := true, laidKinds := [.data, .pinned], laidTests := true, laidLooks := .later }
def FnExactPathOfUptoCardSaid : Prop := Claim7.holds Tryz.pinned (.plain (OpenSpec.upto fnExactPathOfSpec)) fnExactPathOfUptoCard

/-- THE SECOND FORM's CARD OF 'laws.FnExactRepairRefs'. -/
def fnExactRepairRefsUptoCard : Claim7 := { stood := { row := fnExactRepairRefsUptoRow, standIns := [], harness := (true, "e561c58dc825963a1e2242659193506247200e5a68859727cdf92b3832d3b399"), looks := false }, kinds := [], alts := [], laidByText := true, laidKinds := [.data, .pinned], laidTests := true, laidLooks := .later }
def FnExactRepairRefsUptoCardSaid : Prop := Claim7.holds Tryz.pinned (.plain (OpenSpec.upto fnExactRepairRefsSpec)) fnExactRepairRefsUptoCard

/-- THE SECOND FORM's CARD OF 'laws.FnExactValidShell'. -/
def fnExactValidShellUptoCard : Claim7 := { stood := { row := fnExactValidShellUptoRow, standIns := [], harness := (true, "e561c58dc825963a1e2242659193506247200e5a68859727cdf92b3832d3b399"), looks := false }, kinds := [], alts := [], laidByText := true, laidKinds := [.data, .pinned], laidTests := true, laidLooks := .later }
def FnExactValidShellUptoCardSaid : Prop := Claim7.holds Tryz.pinned (.plain (OpenSpec.upto fnExactValidShellSpec)) fnExactValidShellUptoCard
end Rows
end Go.Proofs.YtdnblconoegeaaaGreatDoor
