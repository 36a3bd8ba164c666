/-
  DERIVED. GIVEN WITH THE SEED: THE CARDS: each row of YticfcelbnkiopaaDoorRows.lean that lists a variable, with what it lists TIED to the program's text (the seventh form; the later family's looks); each row that meets fmt, with fmt's text TOLD by the authors' own Lean function (tested against real Go, not proved from fmt's source: count such statements apart). THE CARD IS WHAT COUNTS. Prove the row's statement (the work); the ties are given (YticfcelbnkiopaaDoorTie.lean); close each card by the builder's one call (the guide's Derived/Test/ToyasCard.lean, 'card_holds'). Laid BY PROGRAM, IN A SANDBOX (cutbox-door.mjs). By AI agents, Wed Nov 11 2026. No macro, syntax, notation, axiom, sorry.
-/
import Derived.Test.YticfcelbnkiopaaDoorRows
import GoSem.ClaimSeven
namespace Go.Proofs.YticfcelbnkiopaaDoor
namespace Rows

/-- THE TIED CARD OF 'cauterylaw08.BankFull'. -/
def bankFullCard : Claim7 := { stood := { row := bankFullRow, standIns := [], harness := (true, "06d786d11061e47345cb0c0b6bccbf52cbe688d45df15c45c3e76c93cfeea9da"), looks := false }, kinds := [], alts := [], laidByText := true, laidKinds := [.data], laidTests := true, laidLooks := .later }
def BankFullCardSaid : Prop := Claim7.holds Tryd.pinned (.plain (OpenSpec.ofChange bankFullSpec)) bankFullCard

/-- THE TIED CARD OF 'cauterylaw08.BankHealed'. -/
def bankHealedCard : Claim7 := { stood := { row := bankHealedRow, standIns := [], harness := (true, "06d786d11061e47345cb0c0b6bccbf52cbe688d45df15c45c3e76c93cfeea9da"), looks := false }, kinds := [], alts := [], laidByText := true, laidKinds := [.data], laidTests := true, laidLooks := .later }
def BankHealedCardSaid : Prop := Claim7.holds Tryd.pinned (.plain (OpenSpec.ofChange bankHealedSpec)) bankHealedCard

/-- THE TIED CARD OF 'cauterylaw08.BankNever'. -/
def bankNeverCard : Claim7 := { stood := { row := bankNeverRow, standIns := [], harness := (true, "06d786d11061e47345cb0c0b6bccbf52cbe688d45df15c45c3e76c93cfeea9da"), looks := false }, kinds := [], alts := [], laidByText := true, laidKinds := [.data], laidTests := true, laidLooks := .later }
def BankNeverCardSaid : Prop := Claim7.holds Tryd.pinned (.plain (OpenSpec.ofChange bankNeverSpec)) bankNeverCard

/-- THE TIED CARD OF 'cauterylaw08.BankPlays'. -/
def bankPlaysCard : Claim7 := { stood := { row := bankPlaysRow, standIns := [], harness := (true, "06d786d11061e47345cb0c0b6bccbf52cbe688d45df15c45c3e76c93cfeea9da"), looks := false }, kinds := [], alts := [], laidByText := true, laidKinds := [.data], laidTests := true, laidLooks := .later }
def BankPlaysCardSaid : Prop := Claim7.holds Tryd.pinned (.plain (OpenSpec.ofChange bankPlaysSpec)) bankPlaysCard

/-- THE TIED CARD OF 'cauterylaw07.LabelEncode'. -/
def labelEncodeCard : Claim7 := { stood := { row := labelEncodeRow, standIns := [], harness := (true, "06d786d11061e47345cb0c0b6bccbf52cbe688d45df15c45c3e76c93cfeea9da"), looks := false }, kinds := [], alts := [], laidByText := true, laidKinds := [.data, .pinned], laidTests := true, laidLooks := .later }
def LabelEncodeCardSaid : Prop := Claim7.holds Tryd.pinned (.plain (OpenSpec.ofChange labelEncodeSpec)) labelEncodeCard

/-- THE TIED CARD OF 'cauterylaw07.LabelDecode'. -/
def labelDecodeCard : Claim7 := { stood := { row := labelDecodeRow, standIns := [], harness := (true, "06d786d11061e47345cb0c0b6bccbf52cbe688d45df15c45c3e76c93cfeea9da"), looks := false }, kinds := [], alts := [], laidByText := true, laidKinds := [.data, .pinned], laidTests := true, laidLooks := .later }
def LabelDecodeCardSaid : Prop := Claim7.holds Tryd.pinned (.plain (OpenSpec.ofChange labelDecodeSpec)) labelDecodeCard

/-- THE TIED CARD OF 'cauterylaw07.LabelBack'. -/
def labelBackCard : Claim7 := { stood := { row := labelBackRow, standIns := [], harness := (true, "06d786d11061e47345cb0c0b6bccbf52cbe688d45df15c45c3e76c93cfeea9da"), looks := false }, kinds := [], alts := [], laidByText := true, laidKinds := [.data, .pinned], laidTests := true, laidLooks := .later }
def LabelBackCardSaid : Prop := Claim7.holds Tryd.pinned (.plain (OpenSpec.ofChange labelBackSpec)) labelBackCard

/-- THE TIED CARD OF 'cauterylaw07.LabelPlays'. -/
def labelPlaysCard : Claim7 := { stood := { row := labelPlaysRow, standIns := [], harness := (true, "06d786d11061e47345cb0c0b6bccbf52cbe688d45df15c45c3e76c93cfeea9da"), looks := false }, kinds := [], alts := [], laidByText := true, laidKinds := [.data, .pinned], laidTests := true, laidLooks := .later }
def LabelPlaysCardSaid : Prop := Claim7.holds Tryd.pinned (.plain (OpenSpec.ofChange labelPlaysSpec)) labelPlaysCard

/-- THE TIED CARD OF 'cauterylaw09.TreeVolume'. -/
def treeVolumeCard : Claim7 := { stood := { row := treeVolumeRow, standIns := [], harness := (true, "06d786d11061e47345cb0c0b6bccbf52cbe688d45df15c45c3e76c93cfeea9da"), looks := false }, kinds := [], alts := [], laidByText := true, laidKinds := [.data], laidTests := true, laidLooks := .later }
def TreeVolumeCardSaid : Prop := Claim7.holds Tryd.pinned (.plain (OpenSpec.ofChange treeVolumeSpec)) treeVolumeCard

/-- THE TIED CARD OF 'cauterylaw09.TreeWalk'. -/
def treeWalkCard : Claim7 := { stood := { row := treeWalkRow, standIns := [], harness := (true, "06d786d11061e47345cb0c0b6bccbf52cbe688d45df15c45c3e76c93cfeea9da"), looks := false }, kinds := [], alts := [], laidByText := true, laidKinds := [.data], laidTests := true, laidLooks := .later }
def TreeWalkCardSaid : Prop := Claim7.holds Tryd.pinned (.plain (OpenSpec.ofChange treeWalkSpec)) treeWalkCard

/-- THE TIED CARD OF 'cauterylaw09.TreeDiff'. -/
def treeDiffCard : Claim7 := { stood := { row := treeDiffRow, standIns := [], harness := (true, "06d786d11061e47345cb0c0b6bccbf52cbe688d45df15c45c3e76c93cfeea9da"), looks := false }, kinds := [], alts := [], laidByText := true, laidKinds := [.data], laidTests := true, laidLooks := .later }
def TreeDiffCardSaid : Prop := Claim7.holds Tryd.pinned (.plain (OpenSpec.ofChange treeDiffSpec)) treeDiffCard

/-- THE SECOND FORM's CARD OF 'cauterylaw08.BankFull'. -/
def bankFullUptoCard : Claim7 := { stood := { row := bankFullUptoRow, standIns := [], harness := (true, "06d786d11061e47345cb0c0b6bccbf52cbe688d45df15c45c3e76c93cfeea9da"), looks := false }, kinds := [], alts := [], laidByText := true, laidKinds := [.data], laidTests := true, laidLooks := .later }
def BankFullUptoCardSaid : Prop := Claim7.holds Tryd.pinned (.plain (OpenSpec.upto bankFullSpec)) bankFullUptoCard

/-- THE SECOND FORM's CARD OF 'cauterylaw08.BankHealed'. -/
def bankHealedUptoCard : Claim7 := { stood := { row := bankHealedUptoRow, standIns := [], harness := (true, "06d786d11061e47345cb0c0b6bccbf52cbe688d45df15c45c3e76c93cfeea9da"), looks := false }, kinds := [], alts := [], laidByText := true, laidKinds := [.data], laidTests := true, laidLooks := .later }
def BankHealedUptoCardSaid : Prop := Claim7.holds Tryd.pinned (.plain (OpenSpec.upto bankHealedSpec)) bankHealedUptoCard

/-- THE SECOND FORM's CARD OF 'cauterylaw08.BankNever'. -/
def bankNeverUptoCard : Claim7 := { stood := { row := bankNeverUptoRow, standIns := [], harness := (true, "06d786d11061e47345cb0c0b6bccbf52cbe688d45df15c45c3e76c93cfeea9da"), looks := false }, kinds := [], alts := [], laidByText := true, laidKinds := [.data], laidTests := true, laidLooks := .later }
def BankNeverUptoCardSaid : Prop := Claim7.holds Tryd.pinned (.plain (OpenSpec.upto bankNeverSpec)) bankNeverUptoCard

/-- THE SECOND FORM's CARD OF 'cauterylaw08.BankPlays'. -/
def bankPlaysUptoCard : Claim7 := { stood := { row := bankPlaysUptoRow, standIns := [], harness := (true, "06d786d11061e47345cb0c0b6bccbf52cbe688d45df15c45c3e76c93cfeea9da"), looks := false }, kinds := [], alts := [], laidByText := true, laidKinds := [.data], laidTests := true, laidLooks := .later }
def BankPlaysUptoCardSaid : Prop := Claim7.holds Tryd.pinned (.plain (OpenSpec.upto bankPlaysSpec)) bankPlaysUptoCard

/-- THE SECOND FORM's CARD OF 'cauterylaw07.LabelEncode'. -/
def labelEncodeUptoCard : Claim7 := { stood := { row := labelEncodeUptoRow, standIns := [], harness := (true, "06d786d11061e47345cb0c0b6bccbf52cbe688d45df15c45c3e76c93cfeea9da"), looks := false }, kinds := [], alts := [], laidByText := true, laidKinds := [.data, .pinned], laidTests := true, laidLooks := .later }
def LabelEncodeUptoCardSaid : Prop := Claim7.holds Tryd.pinned (.plain (OpenSpec.upto labelEncodeSpec)) labelEncodeUptoCard

/-- THE SECOND FORM's CARD OF 'cauterylaw07.LabelDecode'. -/
def labelDecodeUptoCard : Claim7 := { stood := { row := labelDecodeUptoRow, standIns := [], harness := (true, "06d786d11061e47345cb0c0b6bccbf52cbe688d45df15c45c3e76c93cfeea9da"), looks := false }, kinds := [], alts := [], laidByText := true, laidKinds := [.data, .pinned], laidTests := true, laidLooks := .later }
def LabelDecodeUptoCardSaid : Prop := Claim7.holds Tryd.pinned (.plain (OpenSpec.upto labelDecodeSpec)) labelDecodeUptoCard

/-- THE SECOND FORM's CARD OF 'cauterylaw07.LabelBack'. -/
def labelBackUptoCard : Claim7 := { stood := { row := labelBackUptoRow, standIns := [], harness := (true, "06d786d11061e47345cb0c0b6bccbf52cbe688d45df15c45c3e76c93cfeea9da"), looks := false }, kinds := [], alts := [], laidByText := true, laidKinds := [.data, .pinned], laidTests := true, laidLooks := .later }
def LabelBackUptoCardSaid : Prop := Claim7.holds Tryd.pinned (.plain (OpenSpec.upto labelBackSpec)) labelBackUptoCard

/-- THE SECOND FORM's CARD OF 'cauterylaw07.LabelPlays'. -/
def labelPlaysUptoCard : Claim7 := { stood := { row := labelPlaysUptoRow, standIns := [], harness := (true, "06d786d11061e47345cb0c0b6bccbf52cbe688d45df15c45c3e76c93cfeea9da"), looks := false }, kinds := [], alts := [], laidByText := true, laidKinds := [.data, .pinned], laidTests := true, laidLooks := .later }
def LabelPlaysUptoCardSaid : Prop := Claim7.holds Tryd.pinned (.plain (OpenSpec.upto labelPlaysSpec)) labelPlaysUptoCard

/-- THE SECOND FORM's CARD OF 'cauterylaw09.TreeVolume'. -/
def treeVolumeUptoCard : Claim7 := { stood := { row := treeVolumeUptoRow, standIns := [], harness := (true, "06d786d11061e47345cb0c0b6bccbf52cbe688d45df15c45c3e76c93cfeea9da"), looks := false }, kinds := [], alts := [], laidByText := true, laidKinds := [.data], laidTests := true, laidLooks := .later }
def TreeVolumeUptoCardSaid : Prop := Claim7.holds Tryd.pinned (.plain (OpenSpec.upto treeVolumeSpec)) treeVolumeUptoCard

/-- THE SECOND FORM's CARD OF 'cauterylaw09.TreeWalk'. -/
def treeWalkUptoCard : Claim7 := { stood := { row := treeWalkUptoRow, standIns := [], harness := (true, "06d786d11061e47345cb0c0b6bccbf52cbe688d45df15c45c3e76c93cfeea9da"), looks := false }, kinds := [], alts := [], laidByText := true, laidKinds := [.data], laidTests := true, laidLooks := .later }
def TreeWalkUptoCardSaid : Prop := Claim7.holds Tryd.pinned (.plain (OpenSpec.upto treeWalkSpec)) treeWalkUptoCard

/-- THE SECOND FORM's CARD OF 'cauterylaw09.TreeDiff'. -/
def treeDiffUptoCard : Claim7 := { stood := { row := treeDiffUptoRow, standIns := [], harness := (true, "06d786d11061e47345cb0c0b6bccbf52cbe688d45df15c45c3e76c93cfeea9da"), looks := false }, kinds := [], alts := [], laidByText := true, laidKinds := [.data], laidTests := true, laidLooks := .later }
def TreeDiffUptoCardSaid : Prop := Claim7.holds Tryd.pinned (.plain (OpenSpec.upto treeDiffSpec)) treeDiffUptoCard
end Rows
end Go.Proofs.YticfcelbnkiopaaDoor
