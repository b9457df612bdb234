/-
  DERIVED. GIVEN WITH THE SEED: THE CARDS: each row of YtkmikhinkbbnnaaGreatDoorRows.lean that lists a variable, with what it lists TIED to the program's text (the seventh form; the later family's looks); each row that meets fmt, with fmt's text TOLD by the authors' own Lean function (tested against real Go, not proved from fmt's source: count such statements apart). THE CARD IS WHAT COUNTS. Prove the row's statement (the work); the ties are given (YtkmikhinkbbnnaaGreatDoorTie.lean); close each card by the builder's one call (the guide's Derived/Test/ToyasCard.lean, 'card_holds'). Laid BY PROGRAM, IN A SANDBOX (cutbox-door.mjs). By AI agents, Wed Nov 11 2026. No macro, syntax, notation, axiom, sorry.
-/
import Derived.Test.YtkmikhinkbbnnaaGreatDoorRows
import GoSem.ClaimSeven
namespace Go.Proofs.YtkmikhinkbbnnaaGreatDoor
namespace Rows

/-- THE TIED CARD OF 'mailbaglaw25.BounceNone'. -/
def bounceNoneCard : Claim7 := { stood := { row := bounceNoneRow, standIns := [], harness := (true, "31640ab9b5023b8db8a586ca1ef868172abaf46319a10c8d6234f23cb536d1eb"), looks := true }, kinds := [], alts := [], laidByText := true, laidKinds := [.data, .data, .data, .data, .sentinel, .sentinel, .pinned], laidTests := true, laidLooks := .later }
def BounceNoneCardSaid : Prop := Claim7.holds Tryz.pinned (.plain (OpenSpec.ofChange bounceNoneSpec)) bounceNoneCard

/-- THE TIED CARD OF 'mailbaglaw25.BounceBuilds'. -/
def bounceBuildsCard : Claim7 := { stood := { row := bounceBuildsRow, standIns := [], harness := (true, "31640ab9b5023b8db8a586ca1ef868172abaf46319a10c8d6234f23cb536d1eb"), looks := true }, kinds := [], alts := [], laidByText := true, laidKinds := [.data, .data, .data, .data, .sentinel, .sentinel, .pinned], laidTests := true, laidLooks := .later }
def BounceBuildsCardSaid : Prop := Claim7.holds Tryz.pinned (.plain (OpenSpec.ofChange bounceBuildsSpec)) bounceBuildsCard

/-- THE TIED CARD OF 'mailbaglaw25.BounceHead'. -/
def bounceHeadCard : Claim7 := { stood := { row := bounceHeadRow, standIns := [], harness := (true, "31640ab9b5023b8db8a586ca1ef868172abaf46319a10c8d6234f23cb536d1eb"), looks := true }, kinds := [], alts := [], laidByText := true, laidKinds := [.data, .data, .data, .data, .sentinel, .sentinel, .pinned], laidTests := true, laidLooks := .later }
def BounceHeadCardSaid : Prop := Claim7.holds Tryz.pinned (.plain (OpenSpec.ofChange bounceHeadSpec)) bounceHeadCard

/-- THE TIED CARD OF 'mailbaglaw15.CmdTexts'. -/
def cmdTextsCard : Claim7 := { stood := { row := cmdTextsRow, standIns := [], harness := (true, "31640ab9b5023b8db8a586ca1ef868172abaf46319a10c8d6234f23cb536d1eb"), looks := true }, kinds := [], alts := [], laidByText := true, laidKinds := [.data, .data, .data, .data, .sentinel, .sentinel, .pinned], laidTests := true, laidLooks := .later }
def CmdTextsCardSaid : Prop := Claim7.holds Tryz.pinned (.plain (OpenSpec.ofChange cmdTextsSpec)) cmdTextsCard

/-- THE TIED CARD OF 'mailbaglaw15.CmdWords'. -/
def cmdWordsCard : Claim7 := { stood := { row := cmdWordsRow, standIns := [], harness := (true, "31640ab9b5023b8db8a586ca1ef868172abaf46319a10c8d6234f23cb536d1eb"), looks := true }, kinds := [], alts := [], laidByText := true, laidKinds := [.data, .data, .data, .data, .sentinel, .sentinel, .pinned], laidTests := true, laidLooks := .later }
def CmdWordsCardSaid : Prop := Claim7.holds Tryz.pinned (.plain (OpenSpec.ofChange cmdWordsSpec)) cmdWordsCard

/-- THE TIED CARD OF 'mailbaglaw15.CmdPaths'. -/
def cmdPathsCard : Claim7 := { stood := { row := cmdPathsRow, standIns := [], harness := (true, "31640ab9b5023b8db8a586ca1ef868172abaf46319a10c8d6234f23cb536d1eb"), looks := true }, kinds := [], alts := [], laidByText := true, laidKinds := [.data, .data, .data, .data, .sentinel, .sentinel, .pinned], laidTests := true, laidLooks := .later }
def CmdPathsCardSaid : Prop := Claim7.holds Tryz.pinned (.plain (OpenSpec.ofChange cmdPathsSpec)) cmdPathsCard

/-- THE TIED CARD OF 'mailbaglaw15.CmdBack'. -/
def cmdBackCard : Claim7 := { stood := { row := cmdBackRow, standIns := [], harness := (true, "31640ab9b5023b8db8a586ca1ef868172abaf46319a10c8d6234f23cb536d1eb"), looks := true }, kinds := [], alts := [], laidByText := true, laidKinds := [.data, .data, .data, .data, .sentinel, .sentinel, .pinned], laidTests := true, laidLooks := .later }
def CmdBackCardSaid : Prop := Claim7.holds Tryz.pinned (.plain (OpenSpec.ofChange cmdBackSpec)) cmdBackCard

/-- THE SECOND FORM's CARD OF 'mailbaglaw25.BounceNone'. -/
def bounceNoneUptoCard : Claim7 := { stood := { row := bounceNoneUptoRow, standIns := [], harness := (true, "31640ab9b5023b8db8a586ca1ef868172abaf46319a10c8d6234f23cb536d1eb"), looks := true }, kinds := [], alts := [], laidByText := true, laidKinds := [.data, .data, .data, .data, .sentinel, .sentinel, .pinned], laidTests := true, laidLooks := .later }
def BounceNoneUptoCardSaid : Prop := Claim7.holds Tryz.pinned (.plain (OpenSpec.upto bounceNoneSpec)) bounceNoneUptoCard

/-- THE SECOND FORM's CARD OF 'mailbaglaw25.BounceBuilds'. -/
def bounceBuildsUptoCard : Claim7 := { stood := { row := bounceBuildsUptoRow, standIns := [], harness := (true, "31640ab9b5023b8db8a586ca1ef868172abaf46319a10c8d6234f23cb536d1eb"), looks := true }, kinds := [], alts := [], laidByText := true, laidKinds := [.data, .data, .data, .data, .sentinel, .sentinel, .pinned], laidTests := true, laidLooks := .later }
def BounceBuildsUptoCardSaid : Prop := Claim7.holds Tryz.pinned (.plain (OpenSpec.upto bounceBuildsSpec)) bounceBuildsUptoCard

/-- THE SECOND FORM's CARD OF 'mailbaglaw25.BounceHead'. -/
def bounceHeadUptoCard : Claim7 := { stood := { row := bounceHeadUptoRow, standIns := [], harness := (true, "31640ab9b5023b8db8a586ca1ef868172abaf46319a10c8d6234f23cb536d1eb"), looks := true }, kinds := [], alts := [], laidByText := true, laidKinds := [.data, .data, .data, .data, .sentinel, .sentinel, .pinned], laidTests := true, laidLooks := .later }
def BounceHeadUptoCardSaid : Prop := Claim7.holds Tryz.pinned (.plain (OpenSpec.upto bounceHeadSpec)) bounceHeadUptoCard

/-- THE SECOND FORM's CARD OF 'mailbaglaw15.CmdTexts'. -/
def cmdTextsUptoCard : Claim7 := { stood := { row := cmdTextsUptoRow, standIns := [], harness := (true, "31640ab9b5023b8db8a586ca1ef868172abaf46319a10c8d6234f23cb536d1eb"), looks := true }, kinds := [], alts := [], laidByText := true, laidKinds := [.data, .data, .data, .data, .sentinel, .sentinel, .pinned], laidTests := true, laidLooks := .later }
def CmdTextsUptoCardSaid : Prop := Claim7.holds Tryz.pinned (.plain (OpenSpec.upto cmdTextsSpec)) cmdTextsUptoCard

/-- THE SECOND FORM's CARD OF 'mailbaglaw15.CmdWords'. -/
def cmdWordsUptoCard : Claim7 := { stood := { row := cmdWordsUptoRow, standIns := [], harness := (true, "31640ab9b5023b8db8a586ca1ef868172abaf46319a10c8d6234f23cb536d1eb"), looks := true }, kinds := [], alts := [], laidByText := true, laidKinds := [.data, .data, .data, .data, .sentinel, .sentinel, .pinned], laidTests := true, laidLooks := .later }
def CmdWordsUptoCardSaid : Prop := Claim7.holds Tryz.pinned (.plain (OpenSpec.upto cmdWordsSpec)) cmdWordsUptoCard

/-- THE SECOND FORM's CARD OF 'mailbaglaw15.CmdPaths'. -/
def cmdPathsUptoCard : Claim7 := { stood := { row := cmdPathsUptoRow, standIns := [], harness := (true, "31640ab9b5023b8db8a586ca1ef868172abaf46319a10c8d6234f23cb536d1eb"), looks := true }, kinds := [], alts := [], laidByText := true, laidKinds := [.data, .data, .data, .data, .sentinel, .sentinel, .pinned], laidTests := true, laidLooks := .later }
def CmdPathsUptoCardSaid : Prop := Claim7.holds Tryz.pinned (.plain (OpenSpec.upto cmdPathsSpec)) cmdPathsUptoCard

/-- THE SECOND FORM's CARD OF 'mailbaglaw15.CmdBack'. -/
def cmdBackUptoCard : Claim7 := { stood := { row := cmdBackUptoRow, standIns := [], harness := (true, "31640ab9b5023b8db8a586ca1ef868172abaf46319a10c8d6234f23cb536d1eb"), looks := true }, kinds := [], alts := [], laidByText := true, laidKinds := [.data, .data, .data, .data, .sentinel, .sentinel, .pinned], laidTests := true, laidLooks := .later }
def CmdBackUptoCardSaid : Prop := Claim7.holds Tryz.pinned (.plain (OpenSpec.upto cmdBackSpec)) cmdBackUptoCard
end Rows
end Go.Proofs.YtkmikhinkbbnnaaGreatDoor
