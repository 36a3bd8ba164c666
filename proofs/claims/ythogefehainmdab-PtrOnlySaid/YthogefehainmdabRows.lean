/-
  No cell of these rows narrows 'for every input' (looked for: loops, veiled, ifaces, maps, wideKeys, modest, calm, conditions, laid).
  DERIVED. THE GIVEN ROWS OF THIS SEAT. 4 by the template 'for every input the law returns true; each argument reads behind the call as it read before'; 0 by the template 'total and deterministic' (their statements: YthogefehainmdabTotals.lean).
  GIVEN WITH THE SEED: the statements are not yours to turn. If you find one false, say at which input.
  Laid BY PROGRAM, IN A SANDBOX (cutbox-rows.mjs): the forced cells as the released guide's own fill.sh prints them over the translation 6cb7a540f4f66195… (all of the seat's roots in one cut). By AI agents, Wed Nov 11 2026. No macro, syntax, notation, axiom, sorry.
-/
import Derived.Test.YthogefehainmdabChecked
import GoSem.Claim
import GoSem.ClaimJoined
import GoSem.ClaimMapViews
import Derived.JoinedTies
import Derived.KernelRfl
namespace Go.Proofs.Ythogefehainmdab
/- THE CELL 'sum', in the pinned program and in every row, IS THE sha256 OF THE DUMP (.gsa) THAT YthogefehainmdabProg.lean LOADS. Nothing in Lean hashes anything: it is a label: what it is worth is what the hold of that sum in a sandbox is worth. -/
noncomputable def Try.pinned : Pinned := { name := "ythogefehainmdab", sum := "6cb7a540f4f661957bbf303f2f3e3486190f945a69cfb72ef684083fb9291181", checked := Try.checked }
namespace Rows
def none {H : Type} : Left H := { results := [], args := [] }

/-- 'cauterylaw25.FieldPasses': WHATEVER THE INPUT: true; the input reads as it did. -/
def fieldPassesSpec : ChangeSpec := { name := "fieldPasses", fn := fun _ => fun
  | [d1, d2, d3] => { results := [.lit (.bool true)], args := [d1, d2, d3] }
  | _ => none }
def fieldPassesRow : OpenClaim := { program := "ythogefehainmdab", sum := "6cb7a540f4f661957bbf303f2f3e3486190f945a69cfb72ef684083fb9291181", func := "cautery/cauterylaw25.FieldPasses", spec := "fieldPasses", apart := false }
def FieldPassesSaid : Prop := fieldPassesRow.holds Try.pinned (OpenSpec.ofChange fieldPassesSpec)

/-- ITS FALSE NEIGHBOUR: 'it returns false'. Refute it at one input. -/
def fieldPassesWrong : ChangeSpec := { name := "fieldPasses", fn := fun _ => fun
  | [d1, d2, d3] => { results := [.lit (.bool false)], args := [d1, d2, d3] }
  | _ => none }
def FieldPassesWrongFalsely : Prop := fieldPassesRow.holds Try.pinned (OpenSpec.ofChange fieldPassesWrong)

/-- 'cauterylaw05.PtrDecode': WHATEVER THE INPUT: true; the input reads as it did. -/
def ptrDecodeSpec : ChangeSpec := { name := "ptrDecode", fn := fun _ => fun
  | [d] => { results := [.lit (.bool true)], args := [d] }
  | _ => none }
def ptrDecodeRow : OpenClaim := { program := "ythogefehainmdab", sum := "6cb7a540f4f661957bbf303f2f3e3486190f945a69cfb72ef684083fb9291181", func := "cautery/cauterylaw05.PtrDecode", spec := "ptrDecode", apart := false }
def PtrDecodeSaid : Prop := ptrDecodeRow.holds Try.pinned (OpenSpec.ofChange ptrDecodeSpec)

/-- ITS FALSE NEIGHBOUR: 'it returns false'. Refute it at one input. -/
def ptrDecodeWrong : ChangeSpec := { name := "ptrDecode", fn := fun _ => fun
  | [d] => { results := [.lit (.bool false)], args := [d] }
  | _ => none }
def PtrDecodeWrongFalsely : Prop := ptrDecodeRow.holds Try.pinned (OpenSpec.ofChange ptrDecodeWrong)

/-- 'cauterylaw05.PtrBack': WHATEVER THE INPUT: true; the input reads as it did. -/
def ptrBackSpec : ChangeSpec := { name := "ptrBack", fn := fun _ => fun
  | [d] => { results := [.lit (.bool true)], args := [d] }
  | _ => none }
def ptrBackRow : OpenClaim := { program := "ythogefehainmdab", sum := "6cb7a540f4f661957bbf303f2f3e3486190f945a69cfb72ef684083fb9291181", func := "cautery/cauterylaw05.PtrBack", spec := "ptrBack", apart := false }
def PtrBackSaid : Prop := ptrBackRow.holds Try.pinned (OpenSpec.ofChange ptrBackSpec)

/-- ITS FALSE NEIGHBOUR: 'it returns false'. Refute it at one input. -/
def ptrBackWrong : ChangeSpec := { name := "ptrBack", fn := fun _ => fun
  | [d] => { results := [.lit (.bool false)], args := [d] }
  | _ => none }
def PtrBackWrongFalsely : Prop := ptrBackRow.holds Try.pinned (OpenSpec.ofChange ptrBackWrong)

/-- 'cauterylaw05.PtrOnly': WHATEVER THE INPUT: true; the input reads as it did. -/
def ptrOnlySpec : ChangeSpec := { name := "ptrOnly", fn := fun _ => fun
  | [d] => { results := [.lit (.bool true)], args := [d] }
  | _ => none }
def ptrOnlyRow : OpenClaim := { program := "ythogefehainmdab", sum := "6cb7a540f4f661957bbf303f2f3e3486190f945a69cfb72ef684083fb9291181", func := "cautery/cauterylaw05.PtrOnly", spec := "ptrOnly", apart := false }
def PtrOnlySaid : Prop := ptrOnlyRow.holds Try.pinned (OpenSpec.ofChange ptrOnlySpec)

/-- ITS FALSE NEIGHBOUR: 'it returns false'. Refute it at one input. -/
def ptrOnlyWrong : ChangeSpec := { name := "ptrOnly", fn := fun _ => fun
  | [d] => { results := [.lit (.bool false)], args := [d] }
  | _ => none }
def PtrOnlyWrongFalsely : Prop := ptrOnlyRow.holds Try.pinned (OpenSpec.ofChange ptrOnlyWrong)

/- THE SECOND FORM. 'bulk': how many values and letters a reading holds, each counted each time it is reached (what is shared counts as often as it is met; a slice's spare places count too). A statement '..UptoSaid' is the law's where the arguments, and the package variables that the reading takes, are together of bulk at most 1048576: NARROWER than '..Said'. Prove '..Said' where nothing that the law and all that it calls make is longer than what came in: it says more and counts as full. Else prove '..UptoSaid'. A law counts once. -/
mutual
def uptoBulk {H : Type} : DataW H → Nat
  | .lit (.string bytes) => bytes.length + 1
  | .lit _ => 1
  | .nil => 1
  | .ptr d => uptoBulk d + 1
  | .slice elems spare => uptoBulkAll elems + uptoBulkAll spare + 1
  | .agg parts => uptoBulkAll parts + 1
  | .iface _ d => uptoBulk d + 1
  | .map entries => uptoBulkEntries entries + 1
  | .held _ => 1
def uptoBulkAll {H : Type} : List (DataW H) → Nat
  | [] => 0
  | d :: r => uptoBulk d + uptoBulkAll r
def uptoBulkEntries {H : Type} : List (Lit × DataW H) → Nat
  | [] => 0
  | x :: r => uptoBulkEntry x + uptoBulkEntries r
def uptoBulkEntry {H : Type} : Lit × DataW H → Nat
  | (.string bytes, d) => bytes.length + uptoBulk d + 1
  | (_, d) => uptoBulk d + 1
 end
def uptoSmall : (H : Type) → List (DataW H) → Bool := fun _ ds => decide (uptoBulkAll ds ≤ 1048576)
def OpenSpec.upto (s : _root_.Go.ChangeSpec) : _root_.Go.OpenSpec := { _root_.Go.OpenSpec.ofChange s with cond := some uptoSmall }

/-- 'cauterylaw25.FieldPasses', WHERE WHAT IT READS IS OF BULK AT MOST 1048576: true; the input reads as it did. -/
def fieldPassesUptoRow : OpenClaim := { program := "ythogefehainmdab", sum := "6cb7a540f4f661957bbf303f2f3e3486190f945a69cfb72ef684083fb9291181", func := "cautery/cauterylaw25.FieldPasses", spec := "fieldPasses", apart := false, narrowed := true }
def FieldPassesUptoSaid : Prop := fieldPassesUptoRow.holds Try.pinned (OpenSpec.upto fieldPassesSpec)

/-- 'cauterylaw05.PtrDecode', WHERE WHAT IT READS IS OF BULK AT MOST 1048576: true; the input reads as it did. -/
def ptrDecodeUptoRow : OpenClaim := { program := "ythogefehainmdab", sum := "6cb7a540f4f661957bbf303f2f3e3486190f945a69cfb72ef684083fb9291181", func := "cautery/cauterylaw05.PtrDecode", spec := "ptrDecode", apart := false, narrowed := true }
def PtrDecodeUptoSaid : Prop := ptrDecodeUptoRow.holds Try.pinned (OpenSpec.upto ptrDecodeSpec)

/-- 'cauterylaw05.PtrBack', WHERE WHAT IT READS IS OF BULK AT MOST 1048576: true; the input reads as it did. -/
def ptrBackUptoRow : OpenClaim := { program := "ythogefehainmdab", sum := "6cb7a540f4f661957bbf303f2f3e3486190f945a69cfb72ef684083fb9291181", func := "cautery/cauterylaw05.PtrBack", spec := "ptrBack", apart := false, narrowed := true }
def PtrBackUptoSaid : Prop := ptrBackUptoRow.holds Try.pinned (OpenSpec.upto ptrBackSpec)

/-- 'cauterylaw05.PtrOnly', WHERE WHAT IT READS IS OF BULK AT MOST 1048576: true; the input reads as it did. -/
def ptrOnlyUptoRow : OpenClaim := { program := "ythogefehainmdab", sum := "6cb7a540f4f661957bbf303f2f3e3486190f945a69cfb72ef684083fb9291181", func := "cautery/cauterylaw05.PtrOnly", spec := "ptrOnly", apart := false, narrowed := true }
def PtrOnlyUptoSaid : Prop := ptrOnlyUptoRow.holds Try.pinned (OpenSpec.upto ptrOnlySpec)

end Rows
end Go.Proofs.Ythogefehainmdab
