/-
  No cell of these rows narrows 'for every input' (looked for: loops, veiled, ifaces, maps, wideKeys, modest, calm, conditions, laid).
  DERIVED. THE GIVEN ROWS OF THIS SEAT. 6 by the template 'for every input the law returns true; each argument reads behind the call as it read before'; 0 by the template 'total and deterministic' (their statements: YtbglebchnlfklaaTotals.lean).
  GIVEN WITH THE SEED: the statements are not yours to turn. If you find one false, say at which input.
  Laid BY PROGRAM, IN A SANDBOX (cutbox-rows.mjs): the forced cells as the released guide's own fill.sh prints them over the translation ebb1c6a2387fa140… (all of the seat's roots in one cut). By AI agents, Wed Nov 11 2026. No macro, syntax, notation, axiom, sorry.
-/
import Derived.Test.YtbglebchnlfklaaChecked
import GoSem.Claim
import GoSem.ClaimJoined
import GoSem.ClaimMapViews
import Derived.JoinedTies
import Derived.KernelRfl
namespace Go.Proofs.Ytbglebchnlfklaa
/- THE CELL 'sum', in the pinned program and in every row, IS THE sha256 OF THE DUMP (.gsa) THAT YtbglebchnlfklaaProg.lean LOADS. Nothing in Lean hashes anything: it is a label: what it is worth is what the hold of that sum in a sandbox is worth. -/
noncomputable def Try.pinned : Pinned := { name := "ytbglebchnlfklaa", sum := "ebb1c6a2387fa1404acaf32b71150077c88655aeadb176d9eb11935aa7edd64a", checked := Try.checked }
namespace Rows
def none {H : Type} : Left H := { results := [], args := [] }

/-- 'cauterylaw12.CatalogDecode': WHATEVER THE INPUT: true; the input reads as it did. -/
def catalogDecodeSpec : ChangeSpec := { name := "catalogDecode", fn := fun _ => fun
  | [d] => { results := [.lit (.bool true)], args := [d] }
  | _ => none }
def catalogDecodeRow : OpenClaim := { program := "ytbglebchnlfklaa", sum := "ebb1c6a2387fa1404acaf32b71150077c88655aeadb176d9eb11935aa7edd64a", func := "cautery/cauterylaw12.CatalogDecode", spec := "catalogDecode", unfollowed := true, recurses := true, apart := false }
def CatalogDecodeSaid : Prop := catalogDecodeRow.holds Try.pinned (OpenSpec.ofChange catalogDecodeSpec)

/-- ITS FALSE NEIGHBOUR: 'it returns false'. Refute it at one input. -/
def catalogDecodeWrong : ChangeSpec := { name := "catalogDecode", fn := fun _ => fun
  | [d] => { results := [.lit (.bool false)], args := [d] }
  | _ => none }
def CatalogDecodeWrongFalsely : Prop := catalogDecodeRow.holds Try.pinned (OpenSpec.ofChange catalogDecodeWrong)

/-- 'cauterylaw12.CatalogBack': WHATEVER THE INPUT: true; the input reads as it did. -/
def catalogBackSpec : ChangeSpec := { name := "catalogBack", fn := fun _ => fun
  | [d] => { results := [.lit (.bool true)], args := [d] }
  | _ => none }
def catalogBackRow : OpenClaim := { program := "ytbglebchnlfklaa", sum := "ebb1c6a2387fa1404acaf32b71150077c88655aeadb176d9eb11935aa7edd64a", func := "cautery/cauterylaw12.CatalogBack", spec := "catalogBack", unfollowed := true, recurses := true, apart := false }
def CatalogBackSaid : Prop := catalogBackRow.holds Try.pinned (OpenSpec.ofChange catalogBackSpec)

/-- ITS FALSE NEIGHBOUR: 'it returns false'. Refute it at one input. -/
def catalogBackWrong : ChangeSpec := { name := "catalogBack", fn := fun _ => fun
  | [d] => { results := [.lit (.bool false)], args := [d] }
  | _ => none }
def CatalogBackWrongFalsely : Prop := catalogBackRow.holds Try.pinned (OpenSpec.ofChange catalogBackWrong)

/-- 'cauterylaw12.CatalogOnly': WHATEVER THE INPUT: true; the input reads as it did. -/
def catalogOnlySpec : ChangeSpec := { name := "catalogOnly", fn := fun _ => fun
  | [d] => { results := [.lit (.bool true)], args := [d] }
  | _ => none }
def catalogOnlyRow : OpenClaim := { program := "ytbglebchnlfklaa", sum := "ebb1c6a2387fa1404acaf32b71150077c88655aeadb176d9eb11935aa7edd64a", func := "cautery/cauterylaw12.CatalogOnly", spec := "catalogOnly", unfollowed := true, recurses := true, apart := false }
def CatalogOnlySaid : Prop := catalogOnlyRow.holds Try.pinned (OpenSpec.ofChange catalogOnlySpec)

/-- ITS FALSE NEIGHBOUR: 'it returns false'. Refute it at one input. -/
def catalogOnlyWrong : ChangeSpec := { name := "catalogOnly", fn := fun _ => fun
  | [d] => { results := [.lit (.bool false)], args := [d] }
  | _ => none }
def CatalogOnlyWrongFalsely : Prop := catalogOnlyRow.holds Try.pinned (OpenSpec.ofChange catalogOnlyWrong)

/-- 'cauterylaw12.CatalogEncode': WHATEVER THE INPUT: true; the input reads as it did. -/
def catalogEncodeSpec : ChangeSpec := { name := "catalogEncode", fn := fun _ => fun
  | [d1, d2] => { results := [.lit (.bool true)], args := [d1, d2] }
  | _ => none }
def catalogEncodeRow : OpenClaim := { program := "ytbglebchnlfklaa", sum := "ebb1c6a2387fa1404acaf32b71150077c88655aeadb176d9eb11935aa7edd64a", func := "cautery/cauterylaw12.CatalogEncode", spec := "catalogEncode", unfollowed := true, recurses := true, apart := false }
def CatalogEncodeSaid : Prop := catalogEncodeRow.holds Try.pinned (OpenSpec.ofChange catalogEncodeSpec)

/-- ITS FALSE NEIGHBOUR: 'it returns false'. Refute it at one input. -/
def catalogEncodeWrong : ChangeSpec := { name := "catalogEncode", fn := fun _ => fun
  | [d1, d2] => { results := [.lit (.bool false)], args := [d1, d2] }
  | _ => none }
def CatalogEncodeWrongFalsely : Prop := catalogEncodeRow.holds Try.pinned (OpenSpec.ofChange catalogEncodeWrong)

/-- 'cauterylaw12.CatalogFind': WHATEVER THE INPUT: true; the input reads as it did. -/
def catalogFindSpec : ChangeSpec := { name := "catalogFind", fn := fun _ => fun
  | [d1, d2, d3] => { results := [.lit (.bool true)], args := [d1, d2, d3] }
  | _ => none }
def catalogFindRow : OpenClaim := { program := "ytbglebchnlfklaa", sum := "ebb1c6a2387fa1404acaf32b71150077c88655aeadb176d9eb11935aa7edd64a", func := "cautery/cauterylaw12.CatalogFind", spec := "catalogFind", unfollowed := true, recurses := true, apart := false }
def CatalogFindSaid : Prop := catalogFindRow.holds Try.pinned (OpenSpec.ofChange catalogFindSpec)

/-- ITS FALSE NEIGHBOUR: 'it returns false'. Refute it at one input. -/
def catalogFindWrong : ChangeSpec := { name := "catalogFind", fn := fun _ => fun
  | [d1, d2, d3] => { results := [.lit (.bool false)], args := [d1, d2, d3] }
  | _ => none }
def CatalogFindWrongFalsely : Prop := catalogFindRow.holds Try.pinned (OpenSpec.ofChange catalogFindWrong)

/-- 'cauterylaw11.ManifestRange': WHATEVER THE INPUT: true; the input reads as it did. -/
def manifestRangeSpec : ChangeSpec := { name := "manifestRange", fn := fun _ => fun
  | [d1, d2, d3] => { results := [.lit (.bool true)], args := [d1, d2, d3] }
  | _ => none }
def manifestRangeRow : OpenClaim := { program := "ytbglebchnlfklaa", sum := "ebb1c6a2387fa1404acaf32b71150077c88655aeadb176d9eb11935aa7edd64a", func := "cautery/cauterylaw11.ManifestRange", spec := "manifestRange", unfollowed := true, recurses := true, apart := false }
def ManifestRangeSaid : Prop := manifestRangeRow.holds Try.pinned (OpenSpec.ofChange manifestRangeSpec)

/-- ITS FALSE NEIGHBOUR: 'it returns false'. Refute it at one input. -/
def manifestRangeWrong : ChangeSpec := { name := "manifestRange", fn := fun _ => fun
  | [d1, d2, d3] => { results := [.lit (.bool false)], args := [d1, d2, d3] }
  | _ => none }
def ManifestRangeWrongFalsely : Prop := manifestRangeRow.holds Try.pinned (OpenSpec.ofChange manifestRangeWrong)

/- THE SECOND FORM. 'bulk': how many values and letters a reading holds, each counted each time it is reached (what is shared counts as often as it is met; a slice's spare places count too). A statement '..UptoSaid' is the law's where the arguments, and the package variables that the reading takes, are together of bulk at most 1048576: NARROWER than '..Said'. Prove '..Said' where nothing that the law and all that it calls make is longer than what came in: it says more and counts as full. Else prove '..UptoSaid'. A law counts once. -/
mutual
def uptoBulk {H : Type} : DataW H → Nat
  | .lit (.string bytes) => bytes.length + 1
  | .lit _ => 1
  | .nil => 1
  | .ptr d => uptoBulk d + 1
  | .slice elems spare => uptoBulkAll elems + uptoBulkAll spare + 1
  | .agg parts => uptoBulkAll parts + 1
  | .iface _ d => uptoBulk d + 1
  | .map entries => uptoBulkEntries entries + 1
  | .held _ => 1
def uptoBulkAll {H : Type} : List (DataW H) → Nat
  | [] => 0
  | d :: r => uptoBulk d + uptoBulkAll r
def uptoBulkEntries {H : Type} : List (Lit × DataW H) → Nat
  | [] => 0
  | x :: r => uptoBulkEntry x + uptoBulkEntries r
def uptoBulkEntry {H : Type} : Lit × DataW H → Nat
  | (.string bytes, d) => bytes.length + uptoBulk d + 1
  | (_, d) => uptoBulk d + 1
 end
def uptoSmall : (H : Type) → List (DataW H) → Bool := fun _ ds => decide (uptoBulkAll ds ≤ 1048576)
def OpenSpec.upto (s : _root_.Go.ChangeSpec) : _root_.Go.OpenSpec := { _root_.Go.OpenSpec.ofChange s with cond := some uptoSmall }

/-- 'cauterylaw12.CatalogDecode', WHERE WHAT IT READS IS OF BULK AT MOST 1048576: true; the input reads as it did. -/
def catalogDecodeUptoRow : OpenClaim := { program := "ytbglebchnlfklaa", sum := "ebb1c6a2387fa1404acaf32b71150077c88655aeadb176d9eb11935aa7edd64a", func := "cautery/cauterylaw12.CatalogDecode", spec := "catalogDecode", unfollowed := true, recurses := true, apart := false, narrowed := true }
def CatalogDecodeUptoSaid : Prop := catalogDecodeUptoRow.holds Try.pinned (OpenSpec.upto catalogDecodeSpec)

/-- 'cauterylaw12.CatalogBack', WHERE WHAT IT READS IS OF BULK AT MOST 1048576: true; the input reads as it did. -/
def catalogBackUptoRow : OpenClaim := { program := "ytbglebchnlfklaa", sum := "ebb1c6a2387fa1404acaf32b71150077c88655aeadb176d9eb11935aa7edd64a", func := "cautery/cauterylaw12.CatalogBack", spec := "catalogBack", unfollowed := true, recurses := true, apart := false, narrowed := true }
def CatalogBackUptoSaid : Prop := catalogBackUptoRow.holds Try.pinned (OpenSpec.upto catalogBackSpec)

/-- 'cauterylaw12.CatalogOnly', WHERE WHAT IT READS IS OF BULK AT MOST 1048576: true; the input reads as it did. -/
def catalogOnlyUptoRow : OpenClaim := { program := "ytbglebchnlfklaa", sum := "ebb1c6a2387fa1404acaf32b71150077c88655aeadb176d9eb11935aa7edd64a", func := "cautery/cauterylaw12.CatalogOnly", spec := "catalogOnly", unfollowed := true, recurses := true, apart := false, narrowed := true }
def CatalogOnlyUptoSaid : Prop := catalogOnlyUptoRow.holds Try.pinned (OpenSpec.upto catalogOnlySpec)

/-- 'cauterylaw12.CatalogEncode', WHERE WHAT IT READS IS OF BULK AT MOST 1048576: true; the input reads as it did. -/
def catalogEncodeUptoRow : OpenClaim := { program := "ytbglebchnlfklaa", sum := "ebb1c6a2387fa1404acaf32b71150077c88655aeadb176d9eb11935aa7edd64a", func := "cautery/cauterylaw12.CatalogEncode", spec := "catalogEncode", unfollowed := true, recurses := true, apart := false, narrowed := true }
def CatalogEncodeUptoSaid : Prop := catalogEncodeUptoRow.holds Try.pinned (OpenSpec.upto catalogEncodeSpec)

/-- 'cauterylaw12.CatalogFind', WHERE WHAT IT READS IS OF BULK AT MOST 1048576: true; the input reads as it did. -/
def catalogFindUptoRow : OpenClaim := { program := "ytbglebchnlfklaa", sum := "ebb1c6a2387fa1404acaf32b71150077c88655aeadb176d9eb11935aa7edd64a", func := "cautery/cauterylaw12.CatalogFind", spec := "catalogFind", unfollowed := true, recurses := true, apart := false, narrowed := true }
def CatalogFindUptoSaid : Prop := catalogFindUptoRow.holds Try.pinned (OpenSpec.upto catalogFindSpec)

/-- 'cauterylaw11.ManifestRange', WHERE WHAT IT READS IS OF BULK AT MOST 1048576: true; the input reads as it did. -/
def manifestRangeUptoRow : OpenClaim := { program := "ytbglebchnlfklaa", sum := "ebb1c6a2387fa1404acaf32b71150077c88655aeadb176d9eb11935aa7edd64a", func := "cautery/cauterylaw11.ManifestRange", spec := "manifestRange", unfollowed := true, recurses := true, apart := false, narrowed := true }
def ManifestRangeUptoSaid : Prop := manifestRangeUptoRow.holds Try.pinned (OpenSpec.upto manifestRangeSpec)

end Rows
end Go.Proofs.Ytbglebchnlfklaa
