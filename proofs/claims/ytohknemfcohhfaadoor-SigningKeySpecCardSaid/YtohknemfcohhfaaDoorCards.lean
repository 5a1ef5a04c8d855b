/-
  DERIVED. GIVEN WITH THE SEED: THE CARDS: each row of YtohknemfcohhfaaDoorRows.lean that lists a variable, with what it lists TIED to the program's text (the seventh form; the later family's looks); each row that meets fmt, with fmt's text TOLD by the authors' own Lean function (tested against real Go, not proved from fmt's source: count such statements apart). THE CARD IS WHAT COUNTS. Prove the row's statement (the work); the ties are given (YtohknemfcohhfaaDoorTie.lean); close each card by the builder's one call (the guide's Derived/Test/ToyasCard.lean, 'card_holds'). Laid BY PROGRAM, IN A SANDBOX (cutbox-door.mjs). By AI agents, Wed Nov 11 2026. No macro, syntax, notation, axiom, sorry.
-/
import Derived.Test.YtohknemfcohhfaaDoorRows
import GoSem.ClaimSeven
namespace Go.Proofs.YtohknemfcohhfaaDoor
namespace Rows

/-- THE TIED CARD OF 'veilstonelaw27.DigestSumSpec'. -/
def digestSumSpecCard : Claim7 := { stood := { row := digestSumSpecRow, standIns := [], harness := (true, "288c31a2db6d47d61fa89cc9d806765b3cd69e91dfbeb5af7809e0597dfcc9af"), looks := false }, kinds := [], alts := [], laidByText := true, laidKinds := [.data], laidTests := true, laidLooks := .later }
def DigestSumSpecCardSaid : Prop := Claim7.holds Tryd.pinned (.plain (OpenSpec.ofChange digestSumSpecSpec)) digestSumSpecCard

/-- THE TIED CARD OF 'veilstonelaw27.DigestTreeSpec'. -/
def digestTreeSpecCard : Claim7 := { stood := { row := digestTreeSpecRow, standIns := [], harness := (true, "288c31a2db6d47d61fa89cc9d806765b3cd69e91dfbeb5af7809e0597dfcc9af"), looks := false }, kinds := [], alts := [], laidByText := true, laidKinds := [.data], laidTests := true, laidLooks := .later }
def DigestTreeSpecCardSaid : Prop := Claim7.holds Tryd.pinned (.plain (OpenSpec.ofChange digestTreeSpecSpec)) digestTreeSpecCard

/-- THE TIED CARD OF 'veilstonelaw27.DigestTags'. -/
def digestTagsCard : Claim7 := { stood := { row := digestTagsRow, standIns := [], harness := (true, "288c31a2db6d47d61fa89cc9d806765b3cd69e91dfbeb5af7809e0597dfcc9af"), looks := false }, kinds := [], alts := [], laidByText := true, laidKinds := [.data], laidTests := true, laidLooks := .later }
def DigestTagsCardSaid : Prop := Claim7.holds Tryd.pinned (.plain (OpenSpec.ofChange digestTagsSpec)) digestTagsCard

/-- THE TIED CARD OF 'veilstonelaw27.DigestClimbs'. -/
def digestClimbsCard : Claim7 := { stood := { row := digestClimbsRow, standIns := [], harness := (true, "288c31a2db6d47d61fa89cc9d806765b3cd69e91dfbeb5af7809e0597dfcc9af"), looks := false }, kinds := [], alts := [], laidByText := true, laidKinds := [.data], laidTests := true, laidLooks := .later }
def DigestClimbsCardSaid : Prop := Claim7.holds Tryd.pinned (.plain (OpenSpec.ofChange digestClimbsSpec)) digestClimbsCard

/-- THE TIED CARD OF 'veilstonelaw27.DigestHalves'. -/
def digestHalvesCard : Claim7 := { stood := { row := digestHalvesRow, standIns := [], harness := (true, "288c31a2db6d47d61fa89cc9d806765b3cd69e91dfbeb5af7809e0597dfcc9af"), looks := false }, kinds := [], alts := [], laidByText := true, laidKinds := [.data], laidTests := true, laidLooks := .later }
def DigestHalvesCardSaid : Prop := Claim7.holds Tryd.pinned (.plain (OpenSpec.ofChange digestHalvesSpec)) digestHalvesCard

/-- THE TIED CARD OF 'veilstonelaw27.DigestPlaces'. -/
def digestPlacesCard : Claim7 := { stood := { row := digestPlacesRow, standIns := [], harness := (true, "288c31a2db6d47d61fa89cc9d806765b3cd69e91dfbeb5af7809e0597dfcc9af"), looks := false }, kinds := [], alts := [], laidByText := true, laidKinds := [.data], laidTests := true, laidLooks := .later }
def DigestPlacesCardSaid : Prop := Claim7.holds Tryd.pinned (.plain (OpenSpec.ofChange digestPlacesSpec)) digestPlacesCard

/-- THE TIED CARD OF 'veilstonelaw32.SigningSignSpec'. -/
def signingSignSpecCard : Claim7 := { stood := { row := signingSignSpecRow, standIns := [], harness := (true, "288c31a2db6d47d61fa89cc9d806765b3cd69e91dfbeb5af7809e0597dfcc9af"), looks := false }, kinds := [], alts := [], laidByText := true, laidKinds := [.data], laidTests := true, laidLooks := .later }
def SigningSignSpecCardSaid : Prop := Claim7.holds Tryd.pinned (.plain (OpenSpec.ofChange signingSignSpecSpec)) signingSignSpecCard

/-- THE TIED CARD OF 'veilstonelaw32.SigningVerifySpec'. -/
def signingVerifySpecCard : Claim7 := { stood := { row := signingVerifySpecRow, standIns := [], harness := (true, "288c31a2db6d47d61fa89cc9d806765b3cd69e91dfbeb5af7809e0597dfcc9af"), looks := false }, kinds := [], alts := [], laidByText := true, laidKinds := [.data], laidTests := true, laidLooks := .later }
def SigningVerifySpecCardSaid : Prop := Claim7.holds Tryd.pinned (.plain (OpenSpec.ofChange signingVerifySpecSpec)) signingVerifySpecCard

/-- THE TIED CARD OF 'veilstonelaw32.SigningAntichain'. -/
def signingAntichainCard : Claim7 := { stood := { row := signingAntichainRow, standIns := [], harness := (true, "288c31a2db6d47d61fa89cc9d806765b3cd69e91dfbeb5af7809e0597dfcc9af"), looks := false }, kinds := [], alts := [], laidByText := true, laidKinds := [.data], laidTests := true, laidLooks := .later }
def SigningAntichainCardSaid : Prop := Claim7.holds Tryd.pinned (.plain (OpenSpec.ofChange signingAntichainSpec)) signingAntichainCard

/-- THE TIED CARD OF 'veilstonelaw32.SigningKeySpec'. -/
def signingKeySpecCard : Claim7 := { stood := { row := signingKeySpecRow, standIns := [], harness := (true, "288c31a2db6d47d61fa89cc9d806765b3cd69e91dfbeb5af7809e0597dfcc9af"), looks := false }, kinds := [], alts := [], laidByText := true, laidKinds := [.data], laidTests := true, laidLooks := .later }
def SigningKeySpecCardSaid : Prop := Claim7.holds Tryd.pinned (.plain (OpenSpec.ofChange signingKeySpecSpec)) signingKeySpecCard

/-- THE TIED CARD OF 'veilstonelaw32.SigningVerifies'. -/
def signingVerifiesCard : Claim7 := { stood := { row := signingVerifiesRow, standIns := [], harness := (true, "288c31a2db6d47d61fa89cc9d806765b3cd69e91dfbeb5af7809e0597dfcc9af"), looks := false }, kinds := [], alts := [], laidByText := true, laidKinds := [.data], laidTests := true, laidLooks := .later }
def SigningVerifiesCardSaid : Prop := Claim7.holds Tryd.pinned (.plain (OpenSpec.ofChange signingVerifiesSpec)) signingVerifiesCard

/-- THE TIED CARD OF 'veilstonelaw32.SigningOrder'. -/
def signingOrderCard : Claim7 := { stood := { row := signingOrderRow, standIns := [], harness := (true, "288c31a2db6d47d61fa89cc9d806765b3cd69e91dfbeb5af7809e0597dfcc9af"), looks := false }, kinds := [], alts := [], laidByText := true, laidKinds := [.data], laidTests := true, laidLooks := .later }
def SigningOrderCardSaid : Prop := Claim7.holds Tryd.pinned (.plain (OpenSpec.ofChange signingOrderSpec)) signingOrderCard

/-- THE TIED CARD OF 'veilstonelaw32.SigningChains'. -/
def signingChainsCard : Claim7 := { stood := { row := signingChainsRow, standIns := [], harness := (true, "288c31a2db6d47d61fa89cc9d806765b3cd69e91dfbeb5af7809e0597dfcc9af"), looks := false }, kinds := [], alts := [], laidByText := true, laidKinds := [.data], laidTests := true, laidLooks := .later }
def SigningChainsCardSaid : Prop := Claim7.holds Tryd.pinned (.plain (OpenSpec.ofChange signingChainsSpec)) signingChainsCard

/-- THE TIED CARD OF 'veilstonelaw32.SigningShape'. -/
def signingShapeCard : Claim7 := { stood := { row := signingShapeRow, standIns := [], harness := (true, "288c31a2db6d47d61fa89cc9d806765b3cd69e91dfbeb5af7809e0597dfcc9af"), looks := false }, kinds := [], alts := [], laidByText := true, laidKinds := [.data], laidTests := true, laidLooks := .later }
def SigningShapeCardSaid : Prop := Claim7.holds Tryd.pinned (.plain (OpenSpec.ofChange signingShapeSpec)) signingShapeCard

/-- THE SECOND FORM's CARD OF 'veilstonelaw27.DigestSumSpec'. -/
def digestSumSpecUptoCard : Claim7 := { stood := { row := digestSumSpecUptoRow, standIns := [], harness := (true, "288c31a2db6d47d61fa89cc9d806765b3cd69e91dfbeb5af7809e0597dfcc9af"), looks := false }, kinds := [], alts := [], laidByText := true, laidKinds := [.data], laidTests := true, laidLooks := .later }
def DigestSumSpecUptoCardSaid : Prop := Claim7.holds Tryd.pinned (.plain (OpenSpec.upto digestSumSpecSpec)) digestSumSpecUptoCard

/-- THE SECOND FORM's CARD OF 'veilstonelaw27.DigestTreeSpec'. -/
def digestTreeSpecUptoCard : Claim7 := { stood := { row := digestTreeSpecUptoRow, standIns := [], harness := (true, "288c31a2db6d47d61fa89cc9d806765b3cd69e91dfbeb5af7809e0597dfcc9af"), looks := false }, kinds := [], alts := [], laidByText := true, laidKinds := [.data], laidTests := true, laidLooks := .later }
def DigestTreeSpecUptoCardSaid : Prop := Claim7.holds Tryd.pinned (.plain (OpenSpec.upto digestTreeSpecSpec)) digestTreeSpecUptoCard

/-- THE SECOND FORM's CARD OF 'veilstonelaw27.DigestTags'. -/
def digestTagsUptoCard : Claim7 := { stood := { row := digestTagsUptoRow, standIns := [], harness := (true, "288c31a2db6d47d61fa89cc9d806765b3cd69e91dfbeb5af7809e0597dfcc9af"), looks := false }, kinds := [], alts := [], laidByText := true, laidKinds := [.data], laidTests := true, laidLooks := .later }
def DigestTagsUptoCardSaid : Prop := Claim7.holds Tryd.pinned (.plain (OpenSpec.upto digestTagsSpec)) digestTagsUptoCard

/-- THE SECOND FORM's CARD OF 'veilstonelaw27.DigestClimbs'. -/
def digestClimbsUptoCard : Claim7 := { stood := { row := digestClimbsUptoRow, standIns := [], harness := (true, "288c31a2db6d47d61fa89cc9d806765b3cd69e91dfbeb5af7809e0597dfcc9af"), looks := false }, kinds := [], alts := [], laidByText := true, laidKinds := [.data], laidTests := true, laidLooks := .later }
def DigestClimbsUptoCardSaid : Prop := Claim7.holds Tryd.pinned (.plain (OpenSpec.upto digestClimbsSpec)) digestClimbsUptoCard

/-- THE SECOND FORM's CARD OF 'veilstonelaw27.DigestHalves'. -/
def digestHalvesUptoCard : Claim7 := { stood := { row := digestHalvesUptoRow, standIns := [], harness := (true, "288c31a2db6d47d61fa89cc9d806765b3cd69e91dfbeb5af7809e0597dfcc9af"), looks := false }, kinds := [], alts := [], laidByText := true, laidKinds := [.data], laidTests := true, laidLooks := .later }
def DigestHalvesUptoCardSaid : Prop := Claim7.holds Tryd.pinned (.plain (OpenSpec.upto digestHalvesSpec)) digestHalvesUptoCard

/-- THE SECOND FORM's CARD OF 'veilstonelaw27.DigestPlaces'. -/
def digestPlacesUptoCard : Claim7 := { stood := { row := digestPlacesUptoRow, standIns := [], harness := (true, "288c31a2db6d47d61fa89cc9d806765b3cd69e91dfbeb5af7809e0597dfcc9af"), looks := false }, kinds := [], alts := [], laidByText := true, laidKinds := [.data], laidTests := true, laidLooks := .later }
def DigestPlacesUptoCardSaid : Prop := Claim7.holds Tryd.pinned (.plain (OpenSpec.upto digestPlacesSpec)) digestPlacesUptoCard

/-- THE SECOND FORM's CARD OF 'veilstonelaw32.SigningSignSpec'. -/
def signingSignSpecUptoCard : Claim7 := { stood := { row := signingSignSpecUptoRow, standIns := [], harness := (true, "288c31a2db6d47d61fa89cc9d806765b3cd69e91dfbeb5af7809e0597dfcc9af"), looks := false }, kinds := [], alts := [], laidByText := true, laidKinds := [.data], laidTests := true, laidLooks := .later }
def SigningSignSpecUptoCardSaid : Prop := Claim7.holds Tryd.pinned (.plain (OpenSpec.upto signingSignSpecSpec)) signingSignSpecUptoCard

/-- THE SECOND FORM's CARD OF 'veilstonelaw32.SigningVerifySpec'. -/
def signingVerifySpecUptoCard : Claim7 := { stood := { row := signingVerifySpecUptoRow, standIns := [], harness := (true, "288c31a2db6d47d61fa89cc9d806765b3cd69e91dfbeb5af7809e0597dfcc9af"), looks := false }, kinds := [], alts := [], laidByText := true, laidKinds := [.data], laidTests := true, laidLooks := .later }
def SigningVerifySpecUptoCardSaid : Prop := Claim7.holds Tryd.pinned (.plain (OpenSpec.upto signingVerifySpecSpec)) signingVerifySpecUptoCard

/-- THE SECOND FORM's CARD OF 'veilstonelaw32.SigningAntichain'. -/
def signingAntichainUptoCard : Claim7 := { stood := { row := signingAntichainUptoRow, standIns := [], harness := (true, "288c31a2db6d47d61fa89cc9d806765b3cd69e91dfbeb5af7809e0597dfcc9af"), looks := false }, kinds := [], alts := [], laidByText := true, laidKinds := [.data], laidTests := true, laidLooks := .later }
def SigningAntichainUptoCardSaid : Prop := Claim7.holds Tryd.pinned (.plain (OpenSpec.upto signingAntichainSpec)) signingAntichainUptoCard

/-- THE SECOND FORM's CARD OF 'veilstonelaw32.SigningKeySpec'. -/
def signingKeySpecUptoCard : Claim7 := { stood := { row := signingKeySpecUptoRow, standIns := [], harness := (true, "288c31a2db6d47d61fa89cc9d806765b3cd69e91dfbeb5af7809e0597dfcc9af"), looks := false }, kinds := [], alts := [], laidByText := true, laidKinds := [.data], laidTests := true, laidLooks := .later }
def SigningKeySpecUptoCardSaid : Prop := Claim7.holds Tryd.pinned (.plain (OpenSpec.upto signingKeySpecSpec)) signingKeySpecUptoCard

/-- THE SECOND FORM's CARD OF 'veilstonelaw32.SigningVerifies'. -/
def signingVerifiesUptoCard : Claim7 := { stood := { row := signingVerifiesUptoRow, standIns := [], harness := (true, "288c31a2db6d47d61fa89cc9d806765b3cd69e91dfbeb5af7809e0597dfcc9af"), looks := false }, kinds := [], alts := [], laidByText := true, laidKinds := [.data], laidTests := true, laidLooks := .later }
def SigningVerifiesUptoCardSaid : Prop := Claim7.holds Tryd.pinned (.plain (OpenSpec.upto signingVerifiesSpec)) signingVerifiesUptoCard

/-- THE SECOND FORM's CARD OF 'veilstonelaw32.SigningOrder'. -/
def signingOrderUptoCard : Claim7 := { stood := { row := signingOrderUptoRow, standIns := [], harness := (true, "288c31a2db6d47d61fa89cc9d806765b3cd69e91dfbeb5af7809e0597dfcc9af"), looks := false }, kinds := [], alts := [], laidByText := true, laidKinds := [.data], laidTests := true, laidLooks := .later }
def SigningOrderUptoCardSaid : Prop := Claim7.holds Tryd.pinned (.plain (OpenSpec.upto signingOrderSpec)) signingOrderUptoCard

/-- THE SECOND FORM's CARD OF 'veilstonelaw32.SigningChains'. -/
def signingChainsUptoCard : Claim7 := { stood := { row := signingChainsUptoRow, standIns := [], harness := (true, "288c31a2db6d47d61fa89cc9d806765b3cd69e91dfbeb5af7809e0597dfcc9af"), looks := false }, kinds := [], alts := [], laidByText := true, laidKinds := [.data], laidTests := true, laidLooks := .later }
def SigningChainsUptoCardSaid : Prop := Claim7.holds Tryd.pinned (.plain (OpenSpec.upto signingChainsSpec)) signingChainsUptoCard

/-- THE SECOND FORM's CARD OF 'veilstonelaw32.SigningShape'. -/
def signingShapeUptoCard : Claim7 := { stood := { row := signingShapeUptoRow, standIns := [], harness := (true, "288c31a2db6d47d61fa89cc9d806765b3cd69e91dfbeb5af7809e0597dfcc9af"), looks := false }, kinds := [], alts := [], laidByText := true, laidKinds := [.data], laidTests := true, laidLooks := .later }
def SigningShapeUptoCardSaid : Prop := Claim7.holds Tryd.pinned (.plain (OpenSpec.upto signingShapeSpec)) signingShapeUptoCard
end Rows
end Go.Proofs.YtohknemfcohhfaaDoor
