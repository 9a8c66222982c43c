/-
  DERIVED. GIVEN WITH THE SEED: THE CARDS: each row of YtaclddcneogolaaGreatDoorRows.lean that lists a variable, with what it lists TIED to the program's text (the seventh form; the later family's looks); each row that meets fmt, with fmt's text TOLD by the authors' own Lean function (tested against real Go, not proved from fmt's source: count such statements apart). THE CARD IS WHAT COUNTS. Prove the row's statement (the work); the ties are given (YtaclddcneogolaaGreatDoorTie.lean); close each card by the builder's one call (the guide's Derived/Test/ToyasCard.lean, 'card_holds'). Laid BY PROGRAM, IN A SANDBOX (cutbox-door.mjs). By AI agents, Wed Nov 11 2026. No macro, syntax, notation, axiom, sorry.
-/
import Derived.Test.YtaclddcneogolaaGreatDoorRows
import GoSem.ClaimSeven
namespace Go.Proofs.YtaclddcneogolaaGreatDoor
namespace Rows

/-- THE TIED CARD OF 'warrantlaw21.TellNames'. -/
def tellNamesCard : Claim7 := { stood := { row := tellNamesRow, standIns := [], harness := (true, "3e036517b1b3998e31826ec3228c434d4005399fcbe3a6d33bfa930043602b64"), looks := true }, kinds := [], alts := [], laidByText := true, laidKinds := [.data], laidTests := true, laidLooks := .later }
def TellNamesCardSaid : Prop := Claim7.holds Tryz.pinned (.plain (OpenSpec.ofChange tellNamesSpec)) tellNamesCard

/-- THE TIED CARD OF 'warrantlaw21.TellClaims'. -/
def tellClaimsCard : Claim7 := { stood := { row := tellClaimsRow, standIns := [], harness := (true, "3e036517b1b3998e31826ec3228c434d4005399fcbe3a6d33bfa930043602b64"), looks := true }, kinds := [], alts := [], laidByText := true, laidKinds := [.data], laidTests := true, laidLooks := .later }
def TellClaimsCardSaid : Prop := Claim7.holds Tryz.pinned (.plain (OpenSpec.ofChange tellClaimsSpec)) tellClaimsCard

/-- THE TIED CARD OF 'warrantlaw21.TellParts'. -/
def tellPartsCard : Claim7 := { stood := { row := tellPartsRow, standIns := [], harness := (true, "3e036517b1b3998e31826ec3228c434d4005399fcbe3a6d33bfa930043602b64"), looks := true }, kinds := [], alts := [], laidByText := true, laidKinds := [.data], laidTests := true, laidLooks := .later }
def TellPartsCardSaid : Prop := Claim7.holds Tryz.pinned (.plain (OpenSpec.ofChange tellPartsSpec)) tellPartsCard

/-- THE TIED CARD OF 'warrantlaw21.TellUnlike'. -/
def tellUnlikeCard : Claim7 := { stood := { row := tellUnlikeRow, standIns := [], harness := (true, "3e036517b1b3998e31826ec3228c434d4005399fcbe3a6d33bfa930043602b64"), looks := true }, kinds := [], alts := [], laidByText := true, laidKinds := [.data], laidTests := true, laidLooks := .later }
def TellUnlikeCardSaid : Prop := Claim7.holds Tryz.pinned (.plain (OpenSpec.ofChange tellUnlikeSpec)) tellUnlikeCard

/-- THE SECOND FORM's CARD OF 'warrantlaw21.TellNames'. -/
def tellNamesUptoCard : Claim7 := { stood := { row := tellNamesUptoRow, standIns := [], harness := (true, "3e036517b1b3998e31826ec3228c434d4005399fcbe3a6d33bfa930043602b64"), looks := true }, kinds := [], alts := [], laidByText := true, laidKinds := [.data], laidTests := true, laidLooks := .later }
def TellNamesUptoCardSaid : Prop := Claim7.holds Tryz.pinned (.plain (OpenSpec.upto tellNamesSpec)) tellNamesUptoCard

/-- THE SECOND FORM's CARD OF 'warrantlaw21.TellClaims'. -/
def tellClaimsUptoCard : Claim7 := { stood := { row := tellClaimsUptoRow, standIns := [], harness := (true, "3e036517b1b3998e31826ec3228c434d4005399fcbe3a6d33bfa930043602b64"), looks := true }, kinds := [], alts := [], laidByText := true, laidKinds := [.data], laidTests := true, laidLooks := .later }
def TellClaimsUptoCardSaid : Prop := Claim7.holds Tryz.pinned (.plain (OpenSpec.upto tellClaimsSpec)) tellClaimsUptoCard

/-- THE SECOND FORM's CARD OF 'warrantlaw21.TellParts'. -/
def tellPartsUptoCard : Claim7 := { stood := { row := tellPartsUptoRow, standIns := [], harness := (true, "3e036517b1b3998e31826ec3228c434d4005399fcbe3a6d33bfa930043602b64"), looks := true }, kinds := [], alts := [], laidByText := true, laidKinds := [.data], laidTests := true, laidLooks := .later }
def TellPartsUptoCardSaid : Prop := Claim7.holds Tryz.pinned (.plain (OpenSpec.upto tellPartsSpec)) tellPartsUptoCard

/-- THE SECOND FORM's CARD OF 'warrantlaw21.TellUnlike'. -/
def tellUnlikeUptoCard : Claim7 := { stood := { row := tellUnlikeUptoRow, standIns := [], harness := (true, "3e036517b1b3998e31826ec3228c434d4005399fcbe3a6d33bfa930043602b64"), looks := true }, kinds := [], alts := [], laidByText := true, laidKinds := [.data], laidTests := true, laidLooks := .later }
def TellUnlikeUptoCardSaid : Prop := Claim7.holds Tryz.pinned (.plain (OpenSpec.upto tellUnlikeSpec)) tellUnlikeUptoCard
end Rows
end Go.Proofs.YtaclddcneogolaaGreatDoor
