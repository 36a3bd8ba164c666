/-
  DERIVED. GIVEN WITH THE SEED: THE CARDS: each row of YtbglebchnlfklaaDoorRows.lean that lists a variable, with what it lists TIED to the program's text (the seventh form; the later family's looks); each row that meets fmt, with fmt's text TOLD by the authors' own Lean function (tested against real Go, not proved from fmt's source: count such statements apart). THE CARD IS WHAT COUNTS. Prove the row's statement (the work); the ties are given (YtbglebchnlfklaaDoorTie.lean); close each card by the builder's one call (the guide's Derived/Test/ToyasCard.lean, 'card_holds'). Laid BY PROGRAM, IN A SANDBOX (cutbox-door.mjs). By AI agents, Wed Nov 11 2026. No macro, syntax, notation, axiom, sorry.
-/
import Derived.Test.YtbglebchnlfklaaDoorRows
import GoSem.ClaimSeven
namespace Go.Proofs.YtbglebchnlfklaaDoor
namespace Rows

/-- THE TIED CARD OF 'cauterylaw11.ManifestBytes'. -/
def manifestBytesCard : Claim7 := { stood := { row := manifestBytesRow, standIns := [], harness := (true, "571240968b96dcced95f645c2e31d32281e7b73d60366db04f31ef0c60256bdb"), looks := false }, kinds := [], alts := [], laidByText := true, laidKinds := [.sentinel], laidTests := true, laidLooks := .later }
def ManifestBytesCardSaid : Prop := Claim7.holds Tryd.pinned (.plain (OpenSpec.ofChange manifestBytesSpec)) manifestBytesCard

/-- THE TIED CARD OF 'cauterylaw08.BankFull'. -/
def bankFullCard : Claim7 := { stood := { row := bankFullRow, standIns := [], harness := (true, "571240968b96dcced95f645c2e31d32281e7b73d60366db04f31ef0c60256bdb"), looks := false }, kinds := [], alts := [], laidByText := true, laidKinds := [.data], laidTests := true, laidLooks := .later }
def BankFullCardSaid : Prop := Claim7.holds Tryd.pinned (.plain (OpenSpec.ofChange bankFullSpec)) bankFullCard

/-- THE TIED CARD OF 'cauterylaw08.BankHealed'. -/
def bankHealedCard : Claim7 := { stood := { row := bankHealedRow, standIns := [], harness := (true, "571240968b96dcced95f645c2e31d32281e7b73d60366db04f31ef0c60256bdb"), looks := false }, kinds := [], alts := [], laidByText := true, laidKinds := [.data], laidTests := true, laidLooks := .later }
def BankHealedCardSaid : Prop := Claim7.holds Tryd.pinned (.plain (OpenSpec.ofChange bankHealedSpec)) bankHealedCard

/-- THE TIED CARD OF 'cauterylaw08.BankNever'. -/
def bankNeverCard : Claim7 := { stood := { row := bankNeverRow, standIns := [], harness := (true, "571240968b96dcced95f645c2e31d32281e7b73d60366db04f31ef0c60256bdb"), looks := false }, kinds := [], alts := [], laidByText := true, laidKinds := [.data], laidTests := true, laidLooks := .later }
def BankNeverCardSaid : Prop := Claim7.holds Tryd.pinned (.plain (OpenSpec.ofChange bankNeverSpec)) bankNeverCard

/-- THE TIED CARD OF 'cauterylaw08.BankPlays'. -/
def bankPlaysCard : Claim7 := { stood := { row := bankPlaysRow, standIns := [], harness := (true, "571240968b96dcced95f645c2e31d32281e7b73d60366db04f31ef0c60256bdb"), looks := false }, kinds := [], alts := [], laidByText := true, laidKinds := [.data], laidTests := true, laidLooks := .later }
def BankPlaysCardSaid : Prop := Claim7.holds Tryd.pinned (.plain (OpenSpec.ofChange bankPlaysSpec)) bankPlaysCard

/-- THE TIED CARD OF 'cauterylaw07.LabelEncode'. -/
def labelEncodeCard : Claim7 := { stood := { row := labelEncodeRow, standIns := [], harness := (true, "571240968b96dcced95f645c2e31d32281e7b73d60366db04f31ef0c60256bdb"), looks := false }, kinds := [], alts := [], laidByText := true, laidKinds := [.data, .pinned], laidTests := true, laidLooks := .later }
def LabelEncodeCardSaid : Prop := Claim7.holds Tryd.pinned (.plain (OpenSpec.ofChange labelEncodeSpec)) labelEncodeCard

/-- THE SECOND FORM's CARD OF 'cauterylaw11.ManifestBytes'. -/
def manifestBytesUptoCard : Claim7 := { stood := { row := manifestBytesUptoRow, standIns := [], harness := (true, "571240968b96dcced95f645c2e31d32281e7b73d60366db04f31ef0c60256bdb"), looks := false }, kinds := [], alts := [], laidByText := true, laidKinds := [.sentinel], laidTests := true, laidLooks := .later }
def ManifestBytesUptoCardSaid : Prop := Claim7.holds Tryd.pinned (.plain (OpenSpec.upto manifestBytesSpec)) manifestBytesUptoCard

/-- THE SECOND FORM's CARD OF 'cauterylaw08.BankFull'. -/
def bankFullUptoCard : Claim7 := { stood := { row := bankFullUptoRow, standIns := [], harness := (true, "571240968b96dcced95f645c2e31d32281e7b73d60366db04f31ef0c60256bdb"), looks := false }, kinds := [], alts := [], laidByText := true, laidKinds := [.data], laidTests := true, laidLooks := .later }
def BankFullUptoCardSaid : Prop := Claim7.holds Tryd.pinned (.plain (OpenSpec.upto bankFullSpec)) bankFullUptoCard

/-- THE SECOND FORM's CARD OF 'cauterylaw08.BankHealed'. -/
def bankHealedUptoCard : Claim7 := { stood := { row := bankHealedUptoRow, standIns := [], harness := (true, "571240968b96dcced95f645c2e31d32281e7b73d60366db04f31ef0c60256bdb"), looks := false }, kinds := [], alts := [], laidByText := true, laidKinds := [.data], laidTests := true, laidLooks := .later }
def BankHealedUptoCardSaid : Prop := Claim7.holds Tryd.pinned (.plain (OpenSpec.upto bankHealedSpec)) bankHealedUptoCard

/-- THE SECOND FORM's CARD OF 'cauterylaw08.BankNever'. -/
def bankNeverUptoCard : Claim7 := { stood := { row := bankNeverUptoRow, standIns := [], harness := (true, "571240968b96dcced95f645c2e31d32281e7b73d60366db04f31ef0c60256bdb"), looks := false }, kinds := [], alts := [], laidByText := true, laidKinds := [.data], laidTests := true, laidLooks := .later }
def BankNeverUptoCardSaid : Prop := Claim7.holds Tryd.pinned (.plain (OpenSpec.upto bankNeverSpec)) bankNeverUptoCard

/-- THE SECOND FORM's CARD OF 'cauterylaw08.BankPlays'. -/
def bankPlaysUptoCard : Claim7 := { stood := { row := bankPlaysUptoRow, standIns := [], harness := (true, "571240968b96dcced95f645c2e31d32281e7b73d60366db04f31ef0c60256bdb"), looks := false }, kinds := [], alts := [], laidByText := true, laidKinds := [.data], laidTests := true, laidLooks := .later }
def BankPlaysUptoCardSaid : Prop := Claim7.holds Tryd.pinned (.plain (OpenSpec.upto bankPlaysSpec)) bankPlaysUptoCard

/-- THE SECOND FORM's CARD OF 'cauterylaw07.LabelEncode'. -/
def labelEncodeUptoCard : Claim7 := { stood := { row := labelEncodeUptoRow, standIns := [], harness := (true, "571240968b96dcced95f645c2e31d32281e7b73d60366db04f31ef0c60256bdb"), looks := false }, kinds := [], alts := [], laidByText := true, laidKinds := [.data, .pinned], laidTests := true, laidLooks := .later }
def LabelEncodeUptoCardSaid : Prop := Claim7.holds Tryd.pinned (.plain (OpenSpec.upto labelEncodeSpec)) labelEncodeUptoCard
end Rows
end Go.Proofs.YtbglebchnlfklaaDoor
