/-
  NARROWER THAN 'FOR EVERY INPUT', by the rows' own cells (each row's printed sentence says how): BankFull: laid · BankHealed: laid · BankNever: laid · BankPlays: laid · LabelEncode: laid · LabelDecode: laid · LabelBack: laid · LabelPlays: laid · TreeVolume: laid · TreeWalk: laid · TreeDiff: laid.
  DERIVED. THE GIVEN ROWS OF THIS SEAT. 11 by the template 'for every input the law returns true; each argument reads behind the call as it read before'; 0 by the template 'total and deterministic' (their statements: YticfcelbnkiopaaDoorTotals.lean).
  GIVEN WITH THE SEED: the statements are not yours to turn. If you find one false, say at which input.
  Laid BY PROGRAM, IN A SANDBOX (cutbox-rows.mjs): the forced cells as the released guide's own fill.sh prints them over the translation dd5717de7ec49c1c… (all of the seat's roots in one cut). By AI agents, Wed Nov 11 2026. No macro, syntax, notation, axiom, sorry.
-/
import Derived.Test.YticfcelbnkiopaaDoorChecked
import GoSem.PinnedTables
import GoSem.Claim
import GoSem.ClaimJoined
import GoSem.ClaimMapViews
import Derived.JoinedTies
import Derived.KernelRfl
namespace Go.Proofs.YticfcelbnkiopaaDoor
/- THE CELL 'sum', in the pinned program and in every row, IS THE sha256 OF THE DUMP (.gsa) THAT YticfcelbnkiopaaDoorProg.lean LOADS. Nothing in Lean hashes anything: it is a label: what it is worth is what the hold of that sum in a sandbox is worth. -/
noncomputable def Tryd.pinned : Pinned := { name := "yticfcelbnkiopaadoor", sum := "dd5717de7ec49c1c98bad141632fba904ac05da8789755af59c7193c58f78db9", checked := Tryd.checked }
namespace Rows
def none {H : Type} : Left H := { results := [], args := [] }

/- WHAT THE LISTED PACKAGE-LEVEL VARIABLES READ AS WHEN THE CALL BEGINS. Each datum BY PROGRAM (the guide's laid-datum.mjs) off the statement by which the dump's own 'gosem.cut.vars' lays the variable. In a bare row this is a premise. The card (YticfcelbnkiopaaDoorCards.lean) ties it to the program's text. -/
def laid_math_bits_deBruijn64tab {H : Type} : DataW H := .agg [.lit (.int .u8 0), .lit (.int .u8 1), .lit (.int .u8 56), .lit (.int .u8 2), .lit (.int .u8 57), .lit (.int .u8 49), .lit (.int .u8 28), .lit (.int .u8 3), .lit (.int .u8 61), .lit (.int .u8 58), .lit (.int .u8 42), .lit (.int .u8 50), .lit (.int .u8 38), .lit (.int .u8 29), .lit (.int .u8 17), .lit (.int .u8 4), .lit (.int .u8 62), .lit (.int .u8 47), .lit (.int .u8 59), .lit (.int .u8 36), .lit (.int .u8 45), .lit (.int .u8 43), .lit (.int .u8 51), .lit (.int .u8 22), .lit (.int .u8 53), .lit (.int .u8 39), .lit (.int .u8 33), .lit (.int .u8 30), .lit (.int .u8 24), .lit (.int .u8 18), .lit (.int .u8 12), .lit (.int .u8 5), .lit (.int .u8 63), .lit (.int .u8 55), .lit (.int .u8 48), .lit (.int .u8 27), .lit (.int .u8 60), .lit (.int .u8 41), .lit (.int .u8 37), .lit (.int .u8 16), .lit (.int .u8 46), .lit (.int .u8 35), .lit (.int .u8 44), .lit (.int .u8 21), .lit (.int .u8 52), .lit (.int .u8 32), .lit (.int .u8 23), .lit (.int .u8 11), .lit (.int .u8 54), .lit (.int .u8 26), .lit (.int .u8 40), .lit (.int .u8 15), .lit (.int .u8 34), .lit (.int .u8 20), .lit (.int .u8 31), .lit (.int .u8 10), .lit (.int .u8 25), .lit (.int .u8 14), .lit (.int .u8 19), .lit (.int .u8 9), .lit (.int .u8 13), .lit (.int .u8 8), .lit (.int .u8 7), .lit (.int .u8 6)]
def laid_unicode_utf8_acceptRanges {H : Type} : DataW H := .agg [.agg [.lit (.int .u8 128), .lit (.int .u8 191)], .agg [.lit (.int .u8 160), .lit (.int .u8 191)], .agg [.lit (.int .u8 128), .lit (.int .u8 159)], .agg [.lit (.int .u8 144), .lit (.int .u8 191)], .agg [.lit (.int .u8 128), .lit (.int .u8 143)], .agg [.lit (.int .u8 0), .lit (.int .u8 0)], .agg [.lit (.int .u8 0), .lit (.int .u8 0)], .agg [.lit (.int .u8 0), .lit (.int .u8 0)], .agg [.lit (.int .u8 0), .lit (.int .u8 0)], .agg [.lit (.int .u8 0), .lit (.int .u8 0)], .agg [.lit (.int .u8 0), .lit (.int .u8 0)], .agg [.lit (.int .u8 0), .lit (.int .u8 0)], .agg [.lit (.int .u8 0), .lit (.int .u8 0)], .agg [.lit (.int .u8 0), .lit (.int .u8 0)], .agg [.lit (.int .u8 0), .lit (.int .u8 0)], .agg [.lit (.int .u8 0), .lit (.int .u8 0)]]
/-- One of Go's own tables, pinned by name: the form's constant. -/
def laid_unicode_utf8_first : DataW Unit := Go.Pinned.utf8First

/-- 'cauterylaw08.BankFull': WHATEVER THE INPUT: true; the input reads as it did. -/
def bankFullSpec : ChangeSpec := { name := "bankFull", fn := fun _ => fun
  | [d1, d2, d3] => { results := [.lit (.bool true)], args := [d1, d2, d3] }
  | _ => none }
def bankFullRow : OpenClaim := { program := "yticfcelbnkiopaadoor", sum := "dd5717de7ec49c1c98bad141632fba904ac05da8789755af59c7193c58f78db9", func := "cautery/cauterylaw08.BankFull", spec := "bankFull", unfollowed := true, recurses := true, named := ["math/bits.deBruijn64tab"], apart := false, laid := [("math/bits.deBruijn64tab", laid_math_bits_deBruijn64tab)] }
def BankFullSaid : Prop := bankFullRow.holds Tryd.pinned (OpenSpec.ofChange bankFullSpec)

/-- ITS FALSE NEIGHBOUR: 'it returns false'. Refute it at one input. -/
def bankFullWrong : ChangeSpec := { name := "bankFull", fn := fun _ => fun
  | [d1, d2, d3] => { results := [.lit (.bool false)], args := [d1, d2, d3] }
  | _ => none }
def BankFullWrongFalsely : Prop := bankFullRow.holds Tryd.pinned (OpenSpec.ofChange bankFullWrong)

/-- 'cauterylaw08.BankHealed': WHATEVER THE INPUT: true; the input reads as it did. -/
def bankHealedSpec : ChangeSpec := { name := "bankHealed", fn := fun _ => fun
  | [d1, d2, d3] => { results := [.lit (.bool true)], args := [d1, d2, d3] }
  | _ => none }
def bankHealedRow : OpenClaim := { program := "yticfcelbnkiopaadoor", sum := "dd5717de7ec49c1c98bad141632fba904ac05da8789755af59c7193c58f78db9", func := "cautery/cauterylaw08.BankHealed", spec := "bankHealed", unfollowed := true, recurses := true, named := ["math/bits.deBruijn64tab"], apart := false, laid := [("math/bits.deBruijn64tab", laid_math_bits_deBruijn64tab)] }
def BankHealedSaid : Prop := bankHealedRow.holds Tryd.pinned (OpenSpec.ofChange bankHealedSpec)

/-- ITS FALSE NEIGHBOUR: 'it returns false'. Refute it at one input. -/
def bankHealedWrong : ChangeSpec := { name := "bankHealed", fn := fun _ => fun
  | [d1, d2, d3] => { results := [.lit (.bool false)], args := [d1, d2, d3] }
  | _ => none }
def BankHealedWrongFalsely : Prop := bankHealedRow.holds Tryd.pinned (OpenSpec.ofChange bankHealedWrong)

/-- 'cauterylaw08.BankNever': WHATEVER THE INPUT: true; the input reads as it did. -/
def bankNeverSpec : ChangeSpec := { name := "bankNever", fn := fun _ => fun
  | [d1, d2] => { results := [.lit (.bool true)], args := [d1, d2] }
  | _ => none }
def bankNeverRow : OpenClaim := { program := "yticfcelbnkiopaadoor", sum := "dd5717de7ec49c1c98bad141632fba904ac05da8789755af59c7193c58f78db9", func := "cautery/cauterylaw08.BankNever", spec := "bankNever", unfollowed := true, recurses := true, named := ["math/bits.deBruijn64tab"], apart := false, laid := [("math/bits.deBruijn64tab", laid_math_bits_deBruijn64tab)] }
def BankNeverSaid : Prop := bankNeverRow.holds Tryd.pinned (OpenSpec.ofChange bankNeverSpec)

/-- ITS FALSE NEIGHBOUR: 'it returns false'. Refute it at one input. -/
def bankNeverWrong : ChangeSpec := { name := "bankNever", fn := fun _ => fun
  | [d1, d2] => { results := [.lit (.bool false)], args := [d1, d2] }
  | _ => none }
def BankNeverWrongFalsely : Prop := bankNeverRow.holds Tryd.pinned (OpenSpec.ofChange bankNeverWrong)

/-- 'cauterylaw08.BankPlays': WHATEVER THE INPUT: true; the input reads as it did. -/
def bankPlaysSpec : ChangeSpec := { name := "bankPlays", fn := fun _ => fun
  | [d1, d2] => { results := [.lit (.bool true)], args := [d1, d2] }
  | _ => none }
def bankPlaysRow : OpenClaim := { program := "yticfcelbnkiopaadoor", sum := "dd5717de7ec49c1c98bad141632fba904ac05da8789755af59c7193c58f78db9", func := "cautery/cauterylaw08.BankPlays", spec := "bankPlays", unfollowed := true, recurses := true, named := ["math/bits.deBruijn64tab"], apart := false, laid := [("math/bits.deBruijn64tab", laid_math_bits_deBruijn64tab)] }
def BankPlaysSaid : Prop := bankPlaysRow.holds Tryd.pinned (OpenSpec.ofChange bankPlaysSpec)

/-- ITS FALSE NEIGHBOUR: 'it returns false'. Refute it at one input. -/
def bankPlaysWrong : ChangeSpec := { name := "bankPlays", fn := fun _ => fun
  | [d1, d2] => { results := [.lit (.bool false)], args := [d1, d2] }
  | _ => none }
def BankPlaysWrongFalsely : Prop := bankPlaysRow.holds Tryd.pinned (OpenSpec.ofChange bankPlaysWrong)

/-- 'cauterylaw07.LabelEncode': WHATEVER THE INPUT: true; the input reads as it did. -/
def labelEncodeSpec : ChangeSpec := { name := "labelEncode", fn := fun _ => fun
  | [d] => { results := [.lit (.bool true)], args := [d] }
  | _ => none }
def labelEncodeRow : OpenClaim := { program := "yticfcelbnkiopaadoor", sum := "dd5717de7ec49c1c98bad141632fba904ac05da8789755af59c7193c58f78db9", func := "cautery/cauterylaw07.LabelEncode", spec := "labelEncode", unfollowed := true, recurses := true, named := ["unicode/utf8.first", "unicode/utf8.acceptRanges"], apart := false, laid := [("unicode/utf8.acceptRanges", laid_unicode_utf8_acceptRanges), ("unicode/utf8.first", laid_unicode_utf8_first)] }
def LabelEncodeSaid : Prop := labelEncodeRow.holds Tryd.pinned (OpenSpec.ofChange labelEncodeSpec)

/-- ITS FALSE NEIGHBOUR: 'it returns false'. Refute it at one input. -/
def labelEncodeWrong : ChangeSpec := { name := "labelEncode", fn := fun _ => fun
  | [d] => { results := [.lit (.bool false)], args := [d] }
  | _ => none }
def LabelEncodeWrongFalsely : Prop := labelEncodeRow.holds Tryd.pinned (OpenSpec.ofChange labelEncodeWrong)

/-- 'cauterylaw07.LabelDecode': WHATEVER THE INPUT: true; the input reads as it did. -/
def labelDecodeSpec : ChangeSpec := { name := "labelDecode", fn := fun _ => fun
  | [d] => { results := [.lit (.bool true)], args := [d] }
  | _ => none }
def labelDecodeRow : OpenClaim := { program := "yticfcelbnkiopaadoor", sum := "dd5717de7ec49c1c98bad141632fba904ac05da8789755af59c7193c58f78db9", func := "cautery/cauterylaw07.LabelDecode", spec := "labelDecode", unfollowed := true, recurses := true, named := ["unicode/utf8.first", "unicode/utf8.acceptRanges"], apart := false, laid := [("unicode/utf8.acceptRanges", laid_unicode_utf8_acceptRanges), ("unicode/utf8.first", laid_unicode_utf8_first)] }
def LabelDecodeSaid : Prop := labelDecodeRow.holds Tryd.pinned (OpenSpec.ofChange labelDecodeSpec)

/-- ITS FALSE NEIGHBOUR: 'it returns false'. Refute it at one input. -/
def labelDecodeWrong : ChangeSpec := { name := "labelDecode", fn := fun _ => fun
  | [d] => { results := [.lit (.bool false)], args := [d] }
  | _ => none }
def LabelDecodeWrongFalsely : Prop := labelDecodeRow.holds Tryd.pinned (OpenSpec.ofChange labelDecodeWrong)

/-- 'cauterylaw07.LabelBack': WHATEVER THE INPUT: true; the input reads as it did. -/
def labelBackSpec : ChangeSpec := { name := "labelBack", fn := fun _ => fun
  | [d1, d2, d3] => { results := [.lit (.bool true)], args := [d1, d2, d3] }
  | _ => none }
def labelBackRow : OpenClaim := { program := "yticfcelbnkiopaadoor", sum := "dd5717de7ec49c1c98bad141632fba904ac05da8789755af59c7193c58f78db9", func := "cautery/cauterylaw07.LabelBack", spec := "labelBack", unfollowed := true, recurses := true, named := ["unicode/utf8.first", "unicode/utf8.acceptRanges"], apart := false, laid := [("unicode/utf8.acceptRanges", laid_unicode_utf8_acceptRanges), ("unicode/utf8.first", laid_unicode_utf8_first)] }
def LabelBackSaid : Prop := labelBackRow.holds Tryd.pinned (OpenSpec.ofChange labelBackSpec)

/-- ITS FALSE NEIGHBOUR: 'it returns false'. Refute it at one input. -/
def labelBackWrong : ChangeSpec := { name := "labelBack", fn := fun _ => fun
  | [d1, d2, d3] => { results := [.lit (.bool false)], args := [d1, d2, d3] }
  | _ => none }
def LabelBackWrongFalsely : Prop := labelBackRow.holds Tryd.pinned (OpenSpec.ofChange labelBackWrong)

/-- 'cauterylaw07.LabelPlays': WHATEVER THE INPUT: true; the input reads as it did. -/
def labelPlaysSpec : ChangeSpec := { name := "labelPlays", fn := fun _ => fun
  | [d1, d2] => { results := [.lit (.bool true)], args := [d1, d2] }
  | _ => none }
def labelPlaysRow : OpenClaim := { program := "yticfcelbnkiopaadoor", sum := "dd5717de7ec49c1c98bad141632fba904ac05da8789755af59c7193c58f78db9", func := "cautery/cauterylaw07.LabelPlays", spec := "labelPlays", unfollowed := true, recurses := true, named := ["unicode/utf8.first", "unicode/utf8.acceptRanges"], apart := false, laid := [("unicode/utf8.acceptRanges", laid_unicode_utf8_acceptRanges), ("unicode/utf8.first", laid_unicode_utf8_first)] }
def LabelPlaysSaid : Prop := labelPlaysRow.holds Tryd.pinned (OpenSpec.ofChange labelPlaysSpec)

/-- ITS FALSE NEIGHBOUR: 'it returns false'. Refute it at one input. -/
def labelPlaysWrong : ChangeSpec := { name := "labelPlays", fn := fun _ => fun
  | [d1, d2] => { results := [.lit (.bool false)], args := [d1, d2] }
  | _ => none }
def LabelPlaysWrongFalsely : Prop := labelPlaysRow.holds Tryd.pinned (OpenSpec.ofChange labelPlaysWrong)

/-- 'cauterylaw09.TreeVolume': WHATEVER THE INPUT: true; the input reads as it did. -/
def treeVolumeSpec : ChangeSpec := { name := "treeVolume", fn := fun _ => fun
  | [d] => { results := [.lit (.bool true)], args := [d] }
  | _ => none }
def treeVolumeRow : OpenClaim := { program := "yticfcelbnkiopaadoor", sum := "dd5717de7ec49c1c98bad141632fba904ac05da8789755af59c7193c58f78db9", func := "cautery/cauterylaw09.TreeVolume", spec := "treeVolume", unfollowed := true, recurses := true, named := ["math/bits.deBruijn64tab"], apart := false, laid := [("math/bits.deBruijn64tab", laid_math_bits_deBruijn64tab)] }
def TreeVolumeSaid : Prop := treeVolumeRow.holds Tryd.pinned (OpenSpec.ofChange treeVolumeSpec)

/-- ITS FALSE NEIGHBOUR: 'it returns false'. Refute it at one input. -/
def treeVolumeWrong : ChangeSpec := { name := "treeVolume", fn := fun _ => fun
  | [d] => { results := [.lit (.bool false)], args := [d] }
  | _ => none }
def TreeVolumeWrongFalsely : Prop := treeVolumeRow.holds Tryd.pinned (OpenSpec.ofChange treeVolumeWrong)

/-- 'cauterylaw09.TreeWalk': WHATEVER THE INPUT: true; the input reads as it did. -/
def treeWalkSpec : ChangeSpec := { name := "treeWalk", fn := fun _ => fun
  | [d] => { results := [.lit (.bool true)], args := [d] }
  | _ => none }
def treeWalkRow : OpenClaim := { program := "yticfcelbnkiopaadoor", sum := "dd5717de7ec49c1c98bad141632fba904ac05da8789755af59c7193c58f78db9", func := "cautery/cauterylaw09.TreeWalk", spec := "treeWalk", unfollowed := true, recurses := true, named := ["math/bits.deBruijn64tab"], apart := false, laid := [("math/bits.deBruijn64tab", laid_math_bits_deBruijn64tab)] }
def TreeWalkSaid : Prop := treeWalkRow.holds Tryd.pinned (OpenSpec.ofChange treeWalkSpec)

/-- ITS FALSE NEIGHBOUR: 'it returns false'. Refute it at one input. -/
def treeWalkWrong : ChangeSpec := { name := "treeWalk", fn := fun _ => fun
  | [d] => { results := [.lit (.bool false)], args := [d] }
  | _ => none }
def TreeWalkWrongFalsely : Prop := treeWalkRow.holds Tryd.pinned (OpenSpec.ofChange treeWalkWrong)

/-- 'cauterylaw09.TreeDiff': WHATEVER THE INPUT: true; the input reads as it did. -/
def treeDiffSpec : ChangeSpec := { name := "treeDiff", fn := fun _ => fun
  | [d1, d2] => { results := [.lit (.bool true)], args := [d1, d2] }
  | _ => none }
def treeDiffRow : OpenClaim := { program := "yticfcelbnkiopaadoor", sum := "dd5717de7ec49c1c98bad141632fba904ac05da8789755af59c7193c58f78db9", func := "cautery/cauterylaw09.TreeDiff", spec := "treeDiff", unfollowed := true, recurses := true, named := ["math/bits.deBruijn64tab"], apart := false, laid := [("math/bits.deBruijn64tab", laid_math_bits_deBruijn64tab)] }
def TreeDiffSaid : Prop := treeDiffRow.holds Tryd.pinned (OpenSpec.ofChange treeDiffSpec)

/-- ITS FALSE NEIGHBOUR: 'it returns false'. Refute it at one input. -/
def treeDiffWrong : ChangeSpec := { name := "treeDiff", fn := fun _ => fun
  | [d1, d2] => { results := [.lit (.bool false)], args := [d1, d2] }
  | _ => none }
def TreeDiffWrongFalsely : Prop := treeDiffRow.holds Tryd.pinned (OpenSpec.ofChange treeDiffWrong)

/- THE SECOND FORM. 'bulk': how many values and letters a reading holds, each counted each time it is reached (what is shared counts as often as it is met; a slice's spare places count too). A statement '..UptoSaid' is the law's where the arguments, and the package variables that the reading takes, are together of bulk at most 1048576: NARROWER than '..Said'. Prove '..Said' where nothing that the law and all that it calls make is longer than what came in: it says more and counts as full. Else prove '..UptoSaid'. A law counts once. -/
mutual
def uptoBulk {H : Type} : DataW H → Nat
  | .lit (.string bytes) => bytes.length + 1
  | .lit _ => 1
  | .nil => 1
  | .ptr d => uptoBulk d + 1
  | .slice elems spare => uptoBulkAll elems + uptoBulkAll spare + 1
  | .agg parts => uptoBulkAll parts + 1
  | .iface _ d => uptoBulk d + 1
  | .map entries => uptoBulkEntries entries + 1
  | .held _ => 1
def uptoBulkAll {H : Type} : List (DataW H) → Nat
  | [] => 0
  | d :: r => uptoBulk d + uptoBulkAll r
def uptoBulkEntries {H : Type} : List (Lit × DataW H) → Nat
  | [] => 0
  | x :: r => uptoBulkEntry x + uptoBulkEntries r
def uptoBulkEntry {H : Type} : Lit × DataW H → Nat
  | (.string bytes, d) => bytes.length + uptoBulk d + 1
  | (_, d) => uptoBulk d + 1
 end
def uptoSmall : (H : Type) → List (DataW H) → Bool := fun _ ds => decide (uptoBulkAll ds ≤ 1048576)
def OpenSpec.upto (s : _root_.Go.ChangeSpec) : _root_.Go.OpenSpec := { _root_.Go.OpenSpec.ofChange s with cond := some uptoSmall }

/-- 'cauterylaw08.BankFull', WHERE WHAT IT READS IS OF BULK AT MOST 1048576: true; the input reads as it did. -/
def bankFullUptoRow : OpenClaim := { program := "yticfcelbnkiopaadoor", sum := "dd5717de7ec49c1c98bad141632fba904ac05da8789755af59c7193c58f78db9", func := "cautery/cauterylaw08.BankFull", spec := "bankFull", unfollowed := true, recurses := true, named := ["math/bits.deBruijn64tab"], apart := false, laid := [("math/bits.deBruijn64tab", laid_math_bits_deBruijn64tab)], narrowed := true }
def BankFullUptoSaid : Prop := bankFullUptoRow.holds Tryd.pinned (OpenSpec.upto bankFullSpec)

/-- 'cauterylaw08.BankHealed', WHERE WHAT IT READS IS OF BULK AT MOST 1048576: true; the input reads as it did. -/
def bankHealedUptoRow : OpenClaim := { program := "yticfcelbnkiopaadoor", sum := "dd5717de7ec49c1c98bad141632fba904ac05da8789755af59c7193c58f78db9", func := "cautery/cauterylaw08.BankHealed", spec := "bankHealed", unfollowed := true, recurses := true, named := ["math/bits.deBruijn64tab"], apart := false, laid := [("math/bits.deBruijn64tab", laid_math_bits_deBruijn64tab)], narrowed := true }
def BankHealedUptoSaid : Prop := bankHealedUptoRow.holds Tryd.pinned (OpenSpec.upto bankHealedSpec)

/-- 'cauterylaw08.BankNever', WHERE WHAT IT READS IS OF BULK AT MOST 1048576: true; the input reads as it did. -/
def bankNeverUptoRow : OpenClaim := { program := "yticfcelbnkiopaadoor", sum := "dd5717de7ec49c1c98bad141632fba904ac05da8789755af59c7193c58f78db9", func := "cautery/cauterylaw08.BankNever", spec := "bankNever", unfollowed := true, recurses := true, named := ["math/bits.deBruijn64tab"], apart := false, laid := [("math/bits.deBruijn64tab", laid_math_bits_deBruijn64tab)], narrowed := true }
def BankNeverUptoSaid : Prop := bankNeverUptoRow.holds Tryd.pinned (OpenSpec.upto bankNeverSpec)

/-- 'cauterylaw08.BankPlays', WHERE WHAT IT READS IS OF BULK AT MOST 1048576: true; the input reads as it did. -/
def bankPlaysUptoRow : OpenClaim := { program := "yticfcelbnkiopaadoor", sum := "dd5717de7ec49c1c98bad141632fba904ac05da8789755af59c7193c58f78db9", func := "cautery/cauterylaw08.BankPlays", spec := "bankPlays", unfollowed := true, recurses := true, named := ["math/bits.deBruijn64tab"], apart := false, laid := [("math/bits.deBruijn64tab", laid_math_bits_deBruijn64tab)], narrowed := true }
def BankPlaysUptoSaid : Prop := bankPlaysUptoRow.holds Tryd.pinned (OpenSpec.upto bankPlaysSpec)

/-- 'cauterylaw07.LabelEncode', WHERE WHAT IT READS IS OF BULK AT MOST 1048576: true; the input reads as it did. -/
def labelEncodeUptoRow : OpenClaim := { program := "yticfcelbnkiopaadoor", sum := "dd5717de7ec49c1c98bad141632fba904ac05da8789755af59c7193c58f78db9", func := "cautery/cauterylaw07.LabelEncode", spec := "labelEncode", unfollowed := true, recurses := true, named := ["unicode/utf8.first", "unicode/utf8.acceptRanges"], apart := false, laid := [("unicode/utf8.acceptRanges", laid_unicode_utf8_acceptRanges), ("unicode/utf8.first", laid_unicode_utf8_first)], narrowed := true }
def LabelEncodeUptoSaid : Prop := labelEncodeUptoRow.holds Tryd.pinned (OpenSpec.upto labelEncodeSpec)

/-- 'cauterylaw07.LabelDecode', WHERE WHAT IT READS IS OF BULK AT MOST 1048576: true; the input reads as it did. -/
def labelDecodeUptoRow : OpenClaim := { program := "yticfcelbnkiopaadoor", sum := "dd5717de7ec49c1c98bad141632fba904ac05da8789755af59c7193c58f78db9", func := "cautery/cauterylaw07.LabelDecode", spec := "labelDecode", unfollowed := true, recurses := true, named := ["unicode/utf8.first", "unicode/utf8.acceptRanges"], apart := false, laid := [("unicode/utf8.acceptRanges", laid_unicode_utf8_acceptRanges), ("unicode/utf8.first", laid_unicode_utf8_first)], narrowed := true }
def LabelDecodeUptoSaid : Prop := labelDecodeUptoRow.holds Tryd.pinned (OpenSpec.upto labelDecodeSpec)

/-- 'cauterylaw07.LabelBack', WHERE WHAT IT READS IS OF BULK AT MOST 1048576: true; the input reads as it did. -/
def labelBackUptoRow : OpenClaim := { program := "yticfcelbnkiopaadoor", sum := "dd5717de7ec49c1c98bad141632fba904ac05da8789755af59c7193c58f78db9", func := "cautery/cauterylaw07.LabelBack", spec := "labelBack", unfollowed := true, recurses := true, named := ["unicode/utf8.first", "unicode/utf8.acceptRanges"], apart := false, laid := [("unicode/utf8.acceptRanges", laid_unicode_utf8_acceptRanges), ("unicode/utf8.first", laid_unicode_utf8_first)], narrowed := true }
def LabelBackUptoSaid : Prop := labelBackUptoRow.holds Tryd.pinned (OpenSpec.upto labelBackSpec)

/-- 'cauterylaw07.LabelPlays', WHERE WHAT IT READS IS OF BULK AT MOST 1048576: true; the input reads as it did. -/
def labelPlaysUptoRow : OpenClaim := { program := "yticfcelbnkiopaadoor", sum := "dd5717de7ec49c1c98bad141632fba904ac05da8789755af59c7193c58f78db9", func := "cautery/cauterylaw07.LabelPlays", spec := "labelPlays", unfollowed := true, recurses := true, named := ["unicode/utf8.first", "unicode/utf8.acceptRanges"], apart := false, laid := [("unicode/utf8.acceptRanges", laid_unicode_utf8_acceptRanges), ("unicode/utf8.first", laid_unicode_utf8_first)], narrowed := true }
def LabelPlaysUptoSaid : Prop := labelPlaysUptoRow.holds Tryd.pinned (OpenSpec.upto labelPlaysSpec)

/-- 'cauterylaw09.TreeVolume', WHERE WHAT IT READS IS OF BULK AT MOST 1048576: true; the input reads as it did. -/
def treeVolumeUptoRow : OpenClaim := { program := "yticfcelbnkiopaadoor", sum := "dd5717de7ec49c1c98bad141632fba904ac05da8789755af59c7193c58f78db9", func := "cautery/cauterylaw09.TreeVolume", spec := "treeVolume", unfollowed := true, recurses := true, named := ["math/bits.deBruijn64tab"], apart := false, laid := [("math/bits.deBruijn64tab", laid_math_bits_deBruijn64tab)], narrowed := true }
def TreeVolumeUptoSaid : Prop := treeVolumeUptoRow.holds Tryd.pinned (OpenSpec.upto treeVolumeSpec)

/-- 'cauterylaw09.TreeWalk', WHERE WHAT IT READS IS OF BULK AT MOST 1048576: true; the input reads as it did. -/
def treeWalkUptoRow : OpenClaim := { program := "yticfcelbnkiopaadoor", sum := "dd5717de7ec49c1c98bad141632fba904ac05da8789755af59c7193c58f78db9", func := "cautery/cauterylaw09.TreeWalk", spec := "treeWalk", unfollowed := true, recurses := true, named := ["math/bits.deBruijn64tab"], apart := false, laid := [("math/bits.deBruijn64tab", laid_math_bits_deBruijn64tab)], narrowed := true }
def TreeWalkUptoSaid : Prop := treeWalkUptoRow.holds Tryd.pinned (OpenSpec.upto treeWalkSpec)

/-- 'cauterylaw09.TreeDiff', WHERE WHAT IT READS IS OF BULK AT MOST 1048576: true; the input reads as it did. -/
def treeDiffUptoRow : OpenClaim := { program := "yticfcelbnkiopaadoor", sum := "dd5717de7ec49c1c98bad141632fba904ac05da8789755af59c7193c58f78db9", func := "cautery/cauterylaw09.TreeDiff", spec := "treeDiff", unfollowed := true, recurses := true, named := ["math/bits.deBruijn64tab"], apart := false, laid := [("math/bits.deBruijn64tab", laid_math_bits_deBruijn64tab)], narrowed := true }
def TreeDiffUptoSaid : Prop := treeDiffUptoRow.holds Tryd.pinned (OpenSpec.upto treeDiffSpec)

end Rows
end Go.Proofs.YticfcelbnkiopaaDoor
