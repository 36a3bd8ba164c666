/-
  No cell of these rows narrows 'for every input' (looked for: loops, veiled, ifaces, maps, wideKeys, modest, calm, conditions, laid).
  DERIVED. THE GIVEN ROWS OF THIS SEAT. 12 by the template 'for every input the law returns true; each argument reads behind the call as it read before'; 0 by the template 'total and deterministic' (their statements: YthogefehainmdaaTotals.lean).
  GIVEN WITH THE SEED: the statements are not yours to turn. If you find one false, say at which input.
  Laid BY PROGRAM, IN A SANDBOX (cutbox-rows.mjs): the forced cells as the released guide's own fill.sh prints them over the translation 3a41120f46542fd1… (all of the seat's roots in one cut). By AI agents, Wed Nov 11 2026. No macro, syntax, notation, axiom, sorry.
-/
import Derived.Test.YthogefehainmdaaChecked
import GoSem.Claim
import GoSem.ClaimJoined
import GoSem.ClaimMapViews
import Derived.JoinedTies
import Derived.KernelRfl
namespace Go.Proofs.Ythogefehainmdaa
/- THE CELL 'sum', in the pinned program and in every row, IS THE sha256 OF THE DUMP (.gsa) THAT YthogefehainmdaaProg.lean LOADS. Nothing in Lean hashes anything: it is a label: what it is worth is what the hold of that sum in a sandbox is worth. -/
noncomputable def Try.pinned : Pinned := { name := "ythogefehainmdaa", sum := "3a41120f46542fd186cc5a676561ed53260335f7c9143969498eba69db5f35f2", checked := Try.checked }
namespace Rows
def none {H : Type} : Left H := { results := [], args := [] }

/-- 'cauterylaw25.FieldPowers': WHATEVER THE INPUT: true; the input reads as it did. -/
def fieldPowersSpec : ChangeSpec := { name := "fieldPowers", fn := fun _ => fun
  | [d1, d2, d3] => { results := [.lit (.bool true)], args := [d1, d2, d3] }
  | _ => none }
def fieldPowersRow : OpenClaim := { program := "ythogefehainmdaa", sum := "3a41120f46542fd186cc5a676561ed53260335f7c9143969498eba69db5f35f2", func := "cautery/cauterylaw25.FieldPowers", spec := "fieldPowers", apart := false }
def FieldPowersSaid : Prop := fieldPowersRow.holds Try.pinned (OpenSpec.ofChange fieldPowersSpec)

/-- ITS FALSE NEIGHBOUR: 'it returns false'. Refute it at one input. -/
def fieldPowersWrong : ChangeSpec := { name := "fieldPowers", fn := fun _ => fun
  | [d1, d2, d3] => { results := [.lit (.bool false)], args := [d1, d2, d3] }
  | _ => none }
def FieldPowersWrongFalsely : Prop := fieldPowersRow.holds Try.pinned (OpenSpec.ofChange fieldPowersWrong)

/-- 'cauterylaw01.NumPut': WHATEVER THE INPUT: true; the input reads as it did. -/
def numPutSpec : ChangeSpec := { name := "numPut", fn := fun _ => fun
  | [d1, d2, d3] => { results := [.lit (.bool true)], args := [d1, d2, d3] }
  | _ => none }
def numPutRow : OpenClaim := { program := "ythogefehainmdaa", sum := "3a41120f46542fd186cc5a676561ed53260335f7c9143969498eba69db5f35f2", func := "cautery/cauterylaw01.NumPut", spec := "numPut", apart := false }
def NumPutSaid : Prop := numPutRow.holds Try.pinned (OpenSpec.ofChange numPutSpec)

/-- ITS FALSE NEIGHBOUR: 'it returns false'. Refute it at one input. -/
def numPutWrong : ChangeSpec := { name := "numPut", fn := fun _ => fun
  | [d1, d2, d3] => { results := [.lit (.bool false)], args := [d1, d2, d3] }
  | _ => none }
def NumPutWrongFalsely : Prop := numPutRow.holds Try.pinned (OpenSpec.ofChange numPutWrong)

/-- 'cauterylaw25.FieldTold': WHATEVER THE INPUT: true; the input reads as it did. -/
def fieldToldSpec : ChangeSpec := { name := "fieldTold", fn := fun _ => fun
  | [d1, d2, d3] => { results := [.lit (.bool true)], args := [d1, d2, d3] }
  | _ => none }
def fieldToldRow : OpenClaim := { program := "ythogefehainmdaa", sum := "3a41120f46542fd186cc5a676561ed53260335f7c9143969498eba69db5f35f2", func := "cautery/cauterylaw25.FieldTold", spec := "fieldTold", apart := false }
def FieldToldSaid : Prop := fieldToldRow.holds Try.pinned (OpenSpec.ofChange fieldToldSpec)

/-- ITS FALSE NEIGHBOUR: 'it returns false'. Refute it at one input. -/
def fieldToldWrong : ChangeSpec := { name := "fieldTold", fn := fun _ => fun
  | [d1, d2, d3] => { results := [.lit (.bool false)], args := [d1, d2, d3] }
  | _ => none }
def FieldToldWrongFalsely : Prop := fieldToldRow.holds Try.pinned (OpenSpec.ofChange fieldToldWrong)

/-- 'cauterylaw25.FieldLaws': WHATEVER THE INPUT: true; the input reads as it did. -/
def fieldLawsSpec : ChangeSpec := { name := "fieldLaws", fn := fun _ => fun
  | [d1, d2, d3] => { results := [.lit (.bool true)], args := [d1, d2, d3] }
  | _ => none }
def fieldLawsRow : OpenClaim := { program := "ythogefehainmdaa", sum := "3a41120f46542fd186cc5a676561ed53260335f7c9143969498eba69db5f35f2", func := "cautery/cauterylaw25.FieldLaws", spec := "fieldLaws", apart := false }
def FieldLawsSaid : Prop := fieldLawsRow.holds Try.pinned (OpenSpec.ofChange fieldLawsSpec)

/-- ITS FALSE NEIGHBOUR: 'it returns false'. Refute it at one input. -/
def fieldLawsWrong : ChangeSpec := { name := "fieldLaws", fn := fun _ => fun
  | [d1, d2, d3] => { results := [.lit (.bool false)], args := [d1, d2, d3] }
  | _ => none }
def FieldLawsWrongFalsely : Prop := fieldLawsRow.holds Try.pinned (OpenSpec.ofChange fieldLawsWrong)

/-- 'cauterylaw25.FieldLists': WHATEVER THE INPUT: true; the input reads as it did. -/
def fieldListsSpec : ChangeSpec := { name := "fieldLists", fn := fun _ => fun
  | [d1, d2, d3] => { results := [.lit (.bool true)], args := [d1, d2, d3] }
  | _ => none }
def fieldListsRow : OpenClaim := { program := "ythogefehainmdaa", sum := "3a41120f46542fd186cc5a676561ed53260335f7c9143969498eba69db5f35f2", func := "cautery/cauterylaw25.FieldLists", spec := "fieldLists", apart := false }
def FieldListsSaid : Prop := fieldListsRow.holds Try.pinned (OpenSpec.ofChange fieldListsSpec)

/-- ITS FALSE NEIGHBOUR: 'it returns false'. Refute it at one input. -/
def fieldListsWrong : ChangeSpec := { name := "fieldLists", fn := fun _ => fun
  | [d1, d2, d3] => { results := [.lit (.bool false)], args := [d1, d2, d3] }
  | _ => none }
def FieldListsWrongFalsely : Prop := fieldListsRow.holds Try.pinned (OpenSpec.ofChange fieldListsWrong)

/-- 'cauterylaw01.NumTake': WHATEVER THE INPUT: true; the input reads as it did. -/
def numTakeSpec : ChangeSpec := { name := "numTake", fn := fun _ => fun
  | [d1, d2] => { results := [.lit (.bool true)], args := [d1, d2] }
  | _ => none }
def numTakeRow : OpenClaim := { program := "ythogefehainmdaa", sum := "3a41120f46542fd186cc5a676561ed53260335f7c9143969498eba69db5f35f2", func := "cautery/cauterylaw01.NumTake", spec := "numTake", apart := false }
def NumTakeSaid : Prop := numTakeRow.holds Try.pinned (OpenSpec.ofChange numTakeSpec)

/-- ITS FALSE NEIGHBOUR: 'it returns false'. Refute it at one input. -/
def numTakeWrong : ChangeSpec := { name := "numTake", fn := fun _ => fun
  | [d1, d2] => { results := [.lit (.bool false)], args := [d1, d2] }
  | _ => none }
def NumTakeWrongFalsely : Prop := numTakeRow.holds Try.pinned (OpenSpec.ofChange numTakeWrong)

/-- 'cauterylaw01.NumString': WHATEVER THE INPUT: true; the input reads as it did. -/
def numStringSpec : ChangeSpec := { name := "numString", fn := fun _ => fun
  | [d1, d2] => { results := [.lit (.bool true)], args := [d1, d2] }
  | _ => none }
def numStringRow : OpenClaim := { program := "ythogefehainmdaa", sum := "3a41120f46542fd186cc5a676561ed53260335f7c9143969498eba69db5f35f2", func := "cautery/cauterylaw01.NumString", spec := "numString", apart := false }
def NumStringSaid : Prop := numStringRow.holds Try.pinned (OpenSpec.ofChange numStringSpec)

/-- ITS FALSE NEIGHBOUR: 'it returns false'. Refute it at one input. -/
def numStringWrong : ChangeSpec := { name := "numString", fn := fun _ => fun
  | [d1, d2] => { results := [.lit (.bool false)], args := [d1, d2] }
  | _ => none }
def NumStringWrongFalsely : Prop := numStringRow.holds Try.pinned (OpenSpec.ofChange numStringWrong)

/-- 'cauterylaw01.NumOnly': WHATEVER THE INPUT: true; the input reads as it did. -/
def numOnlySpec : ChangeSpec := { name := "numOnly", fn := fun _ => fun
  | [d] => { results := [.lit (.bool true)], args := [d] }
  | _ => none }
def numOnlyRow : OpenClaim := { program := "ythogefehainmdaa", sum := "3a41120f46542fd186cc5a676561ed53260335f7c9143969498eba69db5f35f2", func := "cautery/cauterylaw01.NumOnly", spec := "numOnly", apart := false }
def NumOnlySaid : Prop := numOnlyRow.holds Try.pinned (OpenSpec.ofChange numOnlySpec)

/-- ITS FALSE NEIGHBOUR: 'it returns false'. Refute it at one input. -/
def numOnlyWrong : ChangeSpec := { name := "numOnly", fn := fun _ => fun
  | [d] => { results := [.lit (.bool false)], args := [d] }
  | _ => none }
def NumOnlyWrongFalsely : Prop := numOnlyRow.holds Try.pinned (OpenSpec.ofChange numOnlyWrong)

/-- 'cauterylaw05.PtrEncode': WHATEVER THE INPUT: true; the input reads as it did. -/
def ptrEncodeSpec : ChangeSpec := { name := "ptrEncode", fn := fun _ => fun
  | [d] => { results := [.lit (.bool true)], args := [d] }
  | _ => none }
def ptrEncodeRow : OpenClaim := { program := "ythogefehainmdaa", sum := "3a41120f46542fd186cc5a676561ed53260335f7c9143969498eba69db5f35f2", func := "cautery/cauterylaw05.PtrEncode", spec := "ptrEncode", apart := false }
def PtrEncodeSaid : Prop := ptrEncodeRow.holds Try.pinned (OpenSpec.ofChange ptrEncodeSpec)

/-- ITS FALSE NEIGHBOUR: 'it returns false'. Refute it at one input. -/
def ptrEncodeWrong : ChangeSpec := { name := "ptrEncode", fn := fun _ => fun
  | [d] => { results := [.lit (.bool false)], args := [d] }
  | _ => none }
def PtrEncodeWrongFalsely : Prop := ptrEncodeRow.holds Try.pinned (OpenSpec.ofChange ptrEncodeWrong)

/-- 'cauterylaw05.PtrNode': WHATEVER THE INPUT: true; the input reads as it did. -/
def ptrNodeSpec : ChangeSpec := { name := "ptrNode", fn := fun _ => fun
  | [d] => { results := [.lit (.bool true)], args := [d] }
  | _ => none }
def ptrNodeRow : OpenClaim := { program := "ythogefehainmdaa", sum := "3a41120f46542fd186cc5a676561ed53260335f7c9143969498eba69db5f35f2", func := "cautery/cauterylaw05.PtrNode", spec := "ptrNode", apart := false }
def PtrNodeSaid : Prop := ptrNodeRow.holds Try.pinned (OpenSpec.ofChange ptrNodeSpec)

/-- ITS FALSE NEIGHBOUR: 'it returns false'. Refute it at one input. -/
def ptrNodeWrong : ChangeSpec := { name := "ptrNode", fn := fun _ => fun
  | [d] => { results := [.lit (.bool false)], args := [d] }
  | _ => none }
def PtrNodeWrongFalsely : Prop := ptrNodeRow.holds Try.pinned (OpenSpec.ofChange ptrNodeWrong)

/-- 'cauterylaw25.FieldThrough': WHATEVER THE INPUT: true; the input reads as it did. -/
def fieldThroughSpec : ChangeSpec := { name := "fieldThrough", fn := fun _ => fun
  | [d1, d2, d3] => { results := [.lit (.bool true)], args := [d1, d2, d3] }
  | _ => none }
def fieldThroughRow : OpenClaim := { program := "ythogefehainmdaa", sum := "3a41120f46542fd186cc5a676561ed53260335f7c9143969498eba69db5f35f2", func := "cautery/cauterylaw25.FieldThrough", spec := "fieldThrough", apart := false }
def FieldThroughSaid : Prop := fieldThroughRow.holds Try.pinned (OpenSpec.ofChange fieldThroughSpec)

/-- ITS FALSE NEIGHBOUR: 'it returns false'. Refute it at one input. -/
def fieldThroughWrong : ChangeSpec := { name := "fieldThrough", fn := fun _ => fun
  | [d1, d2, d3] => { results := [.lit (.bool false)], args := [d1, d2, d3] }
  | _ => none }
def FieldThroughWrongFalsely : Prop := fieldThroughRow.holds Try.pinned (OpenSpec.ofChange fieldThroughWrong)

/-- 'cauterylaw01.NumBack': WHATEVER THE INPUT: true; the input reads as it did. -/
def numBackSpec : ChangeSpec := { name := "numBack", fn := fun _ => fun
  | [d1, d2, d3] => { results := [.lit (.bool true)], args := [d1, d2, d3] }
  | _ => none }
def numBackRow : OpenClaim := { program := "ythogefehainmdaa", sum := "3a41120f46542fd186cc5a676561ed53260335f7c9143969498eba69db5f35f2", func := "cautery/cauterylaw01.NumBack", spec := "numBack", apart := false }
def NumBackSaid : Prop := numBackRow.holds Try.pinned (OpenSpec.ofChange numBackSpec)

/-- ITS FALSE NEIGHBOUR: 'it returns false'. Refute it at one input. -/
def numBackWrong : ChangeSpec := { name := "numBack", fn := fun _ => fun
  | [d1, d2, d3] => { results := [.lit (.bool false)], args := [d1, d2, d3] }
  | _ => none }
def NumBackWrongFalsely : Prop := numBackRow.holds Try.pinned (OpenSpec.ofChange numBackWrong)

/- THE SECOND FORM. 'bulk': how many values and letters a reading holds, each counted each time it is reached (what is shared counts as often as it is met; a slice's spare places count too). A statement '..UptoSaid' is the law's where the arguments, and the package variables that the reading takes, are together of bulk at most 1048576: NARROWER than '..Said'. Prove '..Said' where nothing that the law and all that it calls make is longer than what came in: it says more and counts as full. Else prove '..UptoSaid'. A law counts once. -/
mutual
def uptoBulk {H : Type} : DataW H → Nat
  | .lit (.string bytes) => bytes.length + 1
  | .lit _ => 1
  | .nil => 1
  | .ptr d => uptoBulk d + 1
  | .slice elems spare => uptoBulkAll elems + uptoBulkAll spare + 1
  | .agg parts => uptoBulkAll parts + 1
  | .iface _ d => uptoBulk d + 1
  | .map entries => uptoBulkEntries entries + 1
  | .held _ => 1
def uptoBulkAll {H : Type} : List (DataW H) → Nat
  | [] => 0
  | d :: r => uptoBulk d + uptoBulkAll r
def uptoBulkEntries {H : Type} : List (Lit × DataW H) → Nat
  | [] => 0
  | x :: r => uptoBulkEntry x + uptoBulkEntries r
def uptoBulkEntry {H : Type} : Lit × DataW H → Nat
  | (.string bytes, d) => bytes.length + uptoBulk d + 1
  | (_, d) => uptoBulk d + 1
 end
def uptoSmall : (H : Type) → List (DataW H) → Bool := fun _ ds => decide (uptoBulkAll ds ≤ 1048576)
def OpenSpec.upto (s : _root_.Go.ChangeSpec) : _root_.Go.OpenSpec := { _root_.Go.OpenSpec.ofChange s with cond := some uptoSmall }

/-- 'cauterylaw25.FieldPowers', WHERE WHAT IT READS IS OF BULK AT MOST 1048576: true; the input reads as it did. -/
def fieldPowersUptoRow : OpenClaim := { program := "ythogefehainmdaa", sum := "3a41120f46542fd186cc5a676561ed53260335f7c9143969498eba69db5f35f2", func := "cautery/cauterylaw25.FieldPowers", spec := "fieldPowers", apart := false, narrowed := true }
def FieldPowersUptoSaid : Prop := fieldPowersUptoRow.holds Try.pinned (OpenSpec.upto fieldPowersSpec)

/-- 'cauterylaw01.NumPut', WHERE WHAT IT READS IS OF BULK AT MOST 1048576: true; the input reads as it did. -/
def numPutUptoRow : OpenClaim := { program := "ythogefehainmdaa", sum := "3a41120f46542fd186cc5a676561ed53260335f7c9143969498eba69db5f35f2", func := "cautery/cauterylaw01.NumPut", spec := "numPut", apart := false, narrowed := true }
def NumPutUptoSaid : Prop := numPutUptoRow.holds Try.pinned (OpenSpec.upto numPutSpec)

/-- 'cauterylaw25.FieldTold', WHERE WHAT IT READS IS OF BULK AT MOST 1048576: true; the input reads as it did. -/
def fieldToldUptoRow : OpenClaim := { program := "ythogefehainmdaa", sum := "3a41120f46542fd186cc5a676561ed53260335f7c9143969498eba69db5f35f2", func := "cautery/cauterylaw25.FieldTold", spec := "fieldTold", apart := false, narrowed := true }
def FieldToldUptoSaid : Prop := fieldToldUptoRow.holds Try.pinned (OpenSpec.upto fieldToldSpec)

/-- 'cauterylaw25.FieldLaws', WHERE WHAT IT READS IS OF BULK AT MOST 1048576: true; the input reads as it did. -/
def fieldLawsUptoRow : OpenClaim := { program := "ythogefehainmdaa", sum := "3a41120f46542fd186cc5a676561ed53260335f7c9143969498eba69db5f35f2", func := "cautery/cauterylaw25.FieldLaws", spec := "fieldLaws", apart := false, narrowed := true }
def FieldLawsUptoSaid : Prop := fieldLawsUptoRow.holds Try.pinned (OpenSpec.upto fieldLawsSpec)

/-- 'cauterylaw25.FieldLists', WHERE WHAT IT READS IS OF BULK AT MOST 1048576: true; the input reads as it did. -/
def fieldListsUptoRow : OpenClaim := { program := "ythogefehainmdaa", sum := "3a41120f46542fd186cc5a676561ed53260335f7c9143969498eba69db5f35f2", func := "cautery/cauterylaw25.FieldLists", spec := "fieldLists", apart := false, narrowed := true }
def FieldListsUptoSaid : Prop := fieldListsUptoRow.holds Try.pinned (OpenSpec.upto fieldListsSpec)

/-- 'cauterylaw01.NumTake', WHERE WHAT IT READS IS OF BULK AT MOST 1048576: true; the input reads as it did. -/
def numTakeUptoRow : OpenClaim := { program := "ythogefehainmdaa", sum := "3a41120f46542fd186cc5a676561ed53260335f7c9143969498eba69db5f35f2", func := "cautery/cauterylaw01.NumTake", spec := "numTake", apart := false, narrowed := true }
def NumTakeUptoSaid : Prop := numTakeUptoRow.holds Try.pinned (OpenSpec.upto numTakeSpec)

/-- 'cauterylaw01.NumString', WHERE WHAT IT READS IS OF BULK AT MOST 1048576: true; the input reads as it did. -/
def numStringUptoRow : OpenClaim := { program := "ythogefehainmdaa", sum := "3a41120f46542fd186cc5a676561ed53260335f7c9143969498eba69db5f35f2", func := "cautery/cauterylaw01.NumString", spec := "numString", apart := false, narrowed := true }
def NumStringUptoSaid : Prop := numStringUptoRow.holds Try.pinned (OpenSpec.upto numStringSpec)

/-- 'cauterylaw01.NumOnly', WHERE WHAT IT READS IS OF BULK AT MOST 1048576: true; the input reads as it did. -/
def numOnlyUptoRow : OpenClaim := { program := "ythogefehainmdaa", sum := "3a41120f46542fd186cc5a676561ed53260335f7c9143969498eba69db5f35f2", func := "cautery/cauterylaw01.NumOnly", spec := "numOnly", apart := false, narrowed := true }
def NumOnlyUptoSaid : Prop := numOnlyUptoRow.holds Try.pinned (OpenSpec.upto numOnlySpec)

/-- 'cauterylaw05.PtrEncode', WHERE WHAT IT READS IS OF BULK AT MOST 1048576: true; the input reads as it did. -/
def ptrEncodeUptoRow : OpenClaim := { program := "ythogefehainmdaa", sum := "3a41120f46542fd186cc5a676561ed53260335f7c9143969498eba69db5f35f2", func := "cautery/cauterylaw05.PtrEncode", spec := "ptrEncode", apart := false, narrowed := true }
def PtrEncodeUptoSaid : Prop := ptrEncodeUptoRow.holds Try.pinned (OpenSpec.upto ptrEncodeSpec)

/-- 'cauterylaw05.PtrNode', WHERE WHAT IT READS IS OF BULK AT MOST 1048576: true; the input reads as it did. -/
def ptrNodeUptoRow : OpenClaim := { program := "ythogefehainmdaa", sum := "3a41120f46542fd186cc5a676561ed53260335f7c9143969498eba69db5f35f2", func := "cautery/cauterylaw05.PtrNode", spec := "ptrNode", apart := false, narrowed := true }
def PtrNodeUptoSaid : Prop := ptrNodeUptoRow.holds Try.pinned (OpenSpec.upto ptrNodeSpec)

/-- 'cauterylaw25.FieldThrough', WHERE WHAT IT READS IS OF BULK AT MOST 1048576: true; the input reads as it did. -/
def fieldThroughUptoRow : OpenClaim := { program := "ythogefehainmdaa", sum := "3a41120f46542fd186cc5a676561ed53260335f7c9143969498eba69db5f35f2", func := "cautery/cauterylaw25.FieldThrough", spec := "fieldThrough", apart := false, narrowed := true }
def FieldThroughUptoSaid : Prop := fieldThroughUptoRow.holds Try.pinned (OpenSpec.upto fieldThroughSpec)

/-- 'cauterylaw01.NumBack', WHERE WHAT IT READS IS OF BULK AT MOST 1048576: true; the input reads as it did. -/
def numBackUptoRow : OpenClaim := { program := "ythogefehainmdaa", sum := "3a41120f46542fd186cc5a676561ed53260335f7c9143969498eba69db5f35f2", func := "cautery/cauterylaw01.NumBack", spec := "numBack", apart := false, narrowed := true }
def NumBackUptoSaid : Prop := numBackUptoRow.holds Try.pinned (OpenSpec.upto numBackSpec)

end Rows
end Go.Proofs.Ythogefehainmdaa
