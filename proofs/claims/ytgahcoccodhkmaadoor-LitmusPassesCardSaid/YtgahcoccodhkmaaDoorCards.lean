/-
  DERIVED. GIVEN WITH THE SEED: THE CARDS: each row of YtgahcoccodhkmaaDoorRows.lean that lists a variable, with what it lists TIED to the program's text (the seventh form; the later family's looks); each row that meets fmt, with fmt's text TOLD by the authors' own Lean function (tested against real Go, not proved from fmt's source: count such statements apart). THE CARD IS WHAT COUNTS. Prove the row's statement (the work); the ties are given (YtgahcoccodhkmaaDoorTie.lean); close each card by the builder's one call (the guide's Derived/Test/ToyasCard.lean, 'card_holds'). Laid BY PROGRAM, IN A SANDBOX (cutbox-door.mjs). By AI agents, Wed Nov 11 2026. No macro, syntax, notation, axiom, sorry.
-/
import Derived.Test.YtgahcoccodhkmaaDoorRows
import GoSem.ClaimSeven
namespace Go.Proofs.YtgahcoccodhkmaaDoor
namespace Rows

/-- THE TIED CARD OF 'respitelaw04.LitmusFences'. -/
def litmusFencesCard : Claim7 := { stood := { row := litmusFencesRow, standIns := [], harness := (true, "db772659a3a16ea555ce0b27bfc633e333220a81c599f9df249ef8acbec15dad"), looks := false }, kinds := [], alts := [], laidByText := true, laidKinds := [.data, .data, .data], laidTests := true, laidLooks := .later }
def LitmusFencesCardSaid : Prop := Claim7.holds Tryd.pinned (.plain (OpenSpec.ofChange litmusFencesSpec)) litmusFencesCard

/-- THE TIED CARD OF 'respitelaw04.LitmusOrder'. -/
def litmusOrderCard : Claim7 := { stood := { row := litmusOrderRow, standIns := [], harness := (true, "db772659a3a16ea555ce0b27bfc633e333220a81c599f9df249ef8acbec15dad"), looks := false }, kinds := [], alts := [], laidByText := true, laidKinds := [.data, .data, .data], laidTests := true, laidLooks := .later }
def LitmusOrderCardSaid : Prop := Claim7.holds Tryd.pinned (.plain (OpenSpec.ofChange litmusOrderSpec)) litmusOrderCard

/-- THE TIED CARD OF 'respitelaw04.LitmusGrows'. -/
def litmusGrowsCard : Claim7 := { stood := { row := litmusGrowsRow, standIns := [], harness := (true, "db772659a3a16ea555ce0b27bfc633e333220a81c599f9df249ef8acbec15dad"), looks := false }, kinds := [], alts := [], laidByText := true, laidKinds := [.data, .data, .data], laidTests := true, laidLooks := .later }
def LitmusGrowsCardSaid : Prop := Claim7.holds Tryd.pinned (.plain (OpenSpec.ofChange litmusGrowsSpec)) litmusGrowsCard

/-- THE TIED CARD OF 'respitelaw04.LitmusPasses'. -/
def litmusPassesCard : Claim7 := { stood := { row := litmusPassesRow, standIns := [], harness := (true, "db772659a3a16ea555ce0b27bfc633e333220a81c599f9df249ef8acbec15dad"), looks := false }, kinds := [], alts := [], laidByText := true, laidKinds := [.data, .data, .data], laidTests := true, laidLooks := .later }
def LitmusPassesCardSaid : Prop := Claim7.holds Tryd.pinned (.plain (OpenSpec.ofChange litmusPassesSpec)) litmusPassesCard

/-- THE SECOND FORM's CARD OF 'respitelaw04.LitmusFences'. -/
def litmusFencesUptoCard : Claim7 := { stood := { row := litmusFencesUptoRow, standIns := [], harness := (true, "db772659a3a16ea555ce0b27bfc633e333220a81c599f9df249ef8acbec15dad"), looks := false }, kinds := [], alts := [], laidByText := true, laidKinds := [.data, .data, .data], laidTests := true, laidLooks := .later }
def LitmusFencesUptoCardSaid : Prop := Claim7.holds Tryd.pinned (.plain (OpenSpec.upto litmusFencesSpec)) litmusFencesUptoCard

/-- THE SECOND FORM's CARD OF 'respitelaw04.LitmusOrder'. -/
def litmusOrderUptoCard : Claim7 := { stood := { row := litmusOrderUptoRow, standIns := [], harness := (true, "db772659a3a16ea555ce0b27bfc633e333220a81c599f9df249ef8acbec15dad"), looks := false }, kinds := [], alts := [], laidByText := true, laidKinds := [.data, .data, .data], laidTests := true, laidLooks := .later }
def LitmusOrderUptoCardSaid : Prop := Claim7.holds Tryd.pinned (.plain (OpenSpec.upto litmusOrderSpec)) litmusOrderUptoCard

/-- THE SECOND FORM's CARD OF 'respitelaw04.LitmusGrows'. -/
def litmusGrowsUptoCard : Claim7 := { stood := { row := litmusGrowsUptoRow, standIns := [], harness := (true, "db772659a3a16ea555ce0b27bfc633e333220a81c599f9df249ef8acbec15dad"), looks := false }, kinds := [], alts := [], laidByText := true, laidKinds := [.data, .data, .data], laidTests := true, laidLooks := .later }
def LitmusGrowsUptoCardSaid : Prop := Claim7.holds Tryd.pinned (.plain (OpenSpec.upto litmusGrowsSpec)) litmusGrowsUptoCard

/-- THE SECOND FORM's CARD OF 'respitelaw04.LitmusPasses'. -/
def litmusPassesUptoCard : Claim7 := { stood := { row := litmusPassesUptoRow, standIns := [], harness := (true, "db772659a3a16ea555ce0b27bfc633e333220a81c599f9df249ef8acbec15dad"), looks := false }, kinds := [], alts := [], laidByText := true, laidKinds := [.data, .data, .data], laidTests := true, laidLooks := .later }
def LitmusPassesUptoCardSaid : Prop := Claim7.holds Tryd.pinned (.plain (OpenSpec.upto litmusPassesSpec)) litmusPassesUptoCard
end Rows
end Go.Proofs.YtgahcoccodhkmaaDoor
