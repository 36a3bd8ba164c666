/-
  No cell of these rows narrows 'for every input' (looked for: loops, veiled, ifaces, maps, wideKeys, modest, calm, conditions, laid).
  DERIVED. THE GIVEN ROWS OF THIS SEAT. 9 by the template 'for every input the law returns true; each argument reads behind the call as it read before'; 0 by the template 'total and deterministic' (their statements: YtfnneneaalaagaaTotals.lean).
  GIVEN WITH THE SEED: the statements are not yours to turn. If you find one false, say at which input.
  Laid BY PROGRAM, IN A SANDBOX (cutbox-rows.mjs): the forced cells as the released guide's own fill.sh prints them over the translation c224637ae72943de… (all of the seat's roots in one cut). By AI agents, Wed Nov 11 2026. No macro, syntax, notation, axiom, sorry.
-/
import Derived.Test.YtfnneneaalaagaaChecked
import GoSem.Claim
import GoSem.ClaimJoined
import GoSem.ClaimMapViews
import Derived.JoinedTies
import Derived.KernelRfl
namespace Go.Proofs.Ytfnneneaalaagaa
/- THE CELL 'sum', in the pinned program and in every row, IS THE sha256 OF THE DUMP (.gsa) THAT YtfnneneaalaagaaProg.lean LOADS. Nothing in Lean hashes anything: it is a label: what it is worth is what the hold of that sum in a sandbox is worth. -/
noncomputable def Try.pinned : Pinned := { name := "ytfnneneaalaagaa", sum := "c224637ae72943de0e390b6bdf2c5c670d6706e2efb5fe116ed44984938b4a0a", checked := Try.checked }
namespace Rows
def none {H : Type} : Left H := { results := [], args := [] }

/-- 'cauterylaw28.SqueezeTold': WHATEVER THE INPUT: true; the input reads as it did. -/
def squeezeToldSpec : ChangeSpec := { name := "squeezeTold", fn := fun _ => fun
  | [d1, d2] => { results := [.lit (.bool true)], args := [d1, d2] }
  | _ => none }
def squeezeToldRow : OpenClaim := { program := "ytfnneneaalaagaa", sum := "c224637ae72943de0e390b6bdf2c5c670d6706e2efb5fe116ed44984938b4a0a", func := "cautery/cauterylaw28.SqueezeTold", spec := "squeezeTold", apart := false }
def SqueezeToldSaid : Prop := squeezeToldRow.holds Try.pinned (OpenSpec.ofChange squeezeToldSpec)

/-- ITS FALSE NEIGHBOUR: 'it returns false'. Refute it at one input. -/
def squeezeToldWrong : ChangeSpec := { name := "squeezeTold", fn := fun _ => fun
  | [d1, d2] => { results := [.lit (.bool false)], args := [d1, d2] }
  | _ => none }
def SqueezeToldWrongFalsely : Prop := squeezeToldRow.holds Try.pinned (OpenSpec.ofChange squeezeToldWrong)

/-- 'cauterylaw28.SqueezeExpand': WHATEVER THE INPUT: true; the input reads as it did. -/
def squeezeExpandSpec : ChangeSpec := { name := "squeezeExpand", fn := fun _ => fun
  | [d] => { results := [.lit (.bool true)], args := [d] }
  | _ => none }
def squeezeExpandRow : OpenClaim := { program := "ytfnneneaalaagaa", sum := "c224637ae72943de0e390b6bdf2c5c670d6706e2efb5fe116ed44984938b4a0a", func := "cautery/cauterylaw28.SqueezeExpand", spec := "squeezeExpand", apart := false }
def SqueezeExpandSaid : Prop := squeezeExpandRow.holds Try.pinned (OpenSpec.ofChange squeezeExpandSpec)

/-- ITS FALSE NEIGHBOUR: 'it returns false'. Refute it at one input. -/
def squeezeExpandWrong : ChangeSpec := { name := "squeezeExpand", fn := fun _ => fun
  | [d] => { results := [.lit (.bool false)], args := [d] }
  | _ => none }
def SqueezeExpandWrongFalsely : Prop := squeezeExpandRow.holds Try.pinned (OpenSpec.ofChange squeezeExpandWrong)

/-- 'cauterylaw28.SqueezeBack': WHATEVER THE INPUT: true; the input reads as it did. -/
def squeezeBackSpec : ChangeSpec := { name := "squeezeBack", fn := fun _ => fun
  | [d1, d2] => { results := [.lit (.bool true)], args := [d1, d2] }
  | _ => none }
def squeezeBackRow : OpenClaim := { program := "ytfnneneaalaagaa", sum := "c224637ae72943de0e390b6bdf2c5c670d6706e2efb5fe116ed44984938b4a0a", func := "cautery/cauterylaw28.SqueezeBack", spec := "squeezeBack", apart := false }
def SqueezeBackSaid : Prop := squeezeBackRow.holds Try.pinned (OpenSpec.ofChange squeezeBackSpec)

/-- ITS FALSE NEIGHBOUR: 'it returns false'. Refute it at one input. -/
def squeezeBackWrong : ChangeSpec := { name := "squeezeBack", fn := fun _ => fun
  | [d1, d2] => { results := [.lit (.bool false)], args := [d1, d2] }
  | _ => none }
def SqueezeBackWrongFalsely : Prop := squeezeBackRow.holds Try.pinned (OpenSpec.ofChange squeezeBackWrong)

/-- 'cauterylaw28.SqueezeRuns': WHATEVER THE INPUT: true; the input reads as it did. -/
def squeezeRunsSpec : ChangeSpec := { name := "squeezeRuns", fn := fun _ => fun
  | [d1, d2] => { results := [.lit (.bool true)], args := [d1, d2] }
  | _ => none }
def squeezeRunsRow : OpenClaim := { program := "ytfnneneaalaagaa", sum := "c224637ae72943de0e390b6bdf2c5c670d6706e2efb5fe116ed44984938b4a0a", func := "cautery/cauterylaw28.SqueezeRuns", spec := "squeezeRuns", apart := false }
def SqueezeRunsSaid : Prop := squeezeRunsRow.holds Try.pinned (OpenSpec.ofChange squeezeRunsSpec)

/-- ITS FALSE NEIGHBOUR: 'it returns false'. Refute it at one input. -/
def squeezeRunsWrong : ChangeSpec := { name := "squeezeRuns", fn := fun _ => fun
  | [d1, d2] => { results := [.lit (.bool false)], args := [d1, d2] }
  | _ => none }
def SqueezeRunsWrongFalsely : Prop := squeezeRunsRow.holds Try.pinned (OpenSpec.ofChange squeezeRunsWrong)

/-- 'cauterylaw26.MatrixPick': WHATEVER THE INPUT: true; the input reads as it did. -/
def matrixPickSpec : ChangeSpec := { name := "matrixPick", fn := fun _ => fun
  | [d1, d2, d3] => { results := [.lit (.bool true)], args := [d1, d2, d3] }
  | _ => none }
def matrixPickRow : OpenClaim := { program := "ytfnneneaalaagaa", sum := "c224637ae72943de0e390b6bdf2c5c670d6706e2efb5fe116ed44984938b4a0a", func := "cautery/cauterylaw26.MatrixPick", spec := "matrixPick", unfollowed := true, recurses := true, apart := false }
def MatrixPickSaid : Prop := matrixPickRow.holds Try.pinned (OpenSpec.ofChange matrixPickSpec)

/-- ITS FALSE NEIGHBOUR: 'it returns false'. Refute it at one input. -/
def matrixPickWrong : ChangeSpec := { name := "matrixPick", fn := fun _ => fun
  | [d1, d2, d3] => { results := [.lit (.bool false)], args := [d1, d2, d3] }
  | _ => none }
def MatrixPickWrongFalsely : Prop := matrixPickRow.holds Try.pinned (OpenSpec.ofChange matrixPickWrong)

/-- 'cauterylaw26.MatrixInverse': WHATEVER THE INPUT: true; the input reads as it did. -/
def matrixInverseSpec : ChangeSpec := { name := "matrixInverse", fn := fun _ => fun
  | [d] => { results := [.lit (.bool true)], args := [d] }
  | _ => none }
def matrixInverseRow : OpenClaim := { program := "ytfnneneaalaagaa", sum := "c224637ae72943de0e390b6bdf2c5c670d6706e2efb5fe116ed44984938b4a0a", func := "cautery/cauterylaw26.MatrixInverse", spec := "matrixInverse", unfollowed := true, recurses := true, apart := false }
def MatrixInverseSaid : Prop := matrixInverseRow.holds Try.pinned (OpenSpec.ofChange matrixInverseSpec)

/-- ITS FALSE NEIGHBOUR: 'it returns false'. Refute it at one input. -/
def matrixInverseWrong : ChangeSpec := { name := "matrixInverse", fn := fun _ => fun
  | [d] => { results := [.lit (.bool false)], args := [d] }
  | _ => none }
def MatrixInverseWrongFalsely : Prop := matrixInverseRow.holds Try.pinned (OpenSpec.ofChange matrixInverseWrong)

/-- 'cauterylaw26.MatrixMul': WHATEVER THE INPUT: true; the input reads as it did. -/
def matrixMulSpec : ChangeSpec := { name := "matrixMul", fn := fun _ => fun
  | [d1, d2, d3] => { results := [.lit (.bool true)], args := [d1, d2, d3] }
  | _ => none }
def matrixMulRow : OpenClaim := { program := "ytfnneneaalaagaa", sum := "c224637ae72943de0e390b6bdf2c5c670d6706e2efb5fe116ed44984938b4a0a", func := "cautery/cauterylaw26.MatrixMul", spec := "matrixMul", unfollowed := true, recurses := true, apart := false }
def MatrixMulSaid : Prop := matrixMulRow.holds Try.pinned (OpenSpec.ofChange matrixMulSpec)

/-- ITS FALSE NEIGHBOUR: 'it returns false'. Refute it at one input. -/
def matrixMulWrong : ChangeSpec := { name := "matrixMul", fn := fun _ => fun
  | [d1, d2, d3] => { results := [.lit (.bool false)], args := [d1, d2, d3] }
  | _ => none }
def MatrixMulWrongFalsely : Prop := matrixMulRow.holds Try.pinned (OpenSpec.ofChange matrixMulWrong)

/-- 'cauterylaw26.MatrixAny': WHATEVER THE INPUT: true; the input reads as it did. -/
def matrixAnySpec : ChangeSpec := { name := "matrixAny", fn := fun _ => fun
  | [d1, d2, d3] => { results := [.lit (.bool true)], args := [d1, d2, d3] }
  | _ => none }
def matrixAnyRow : OpenClaim := { program := "ytfnneneaalaagaa", sum := "c224637ae72943de0e390b6bdf2c5c670d6706e2efb5fe116ed44984938b4a0a", func := "cautery/cauterylaw26.MatrixAny", spec := "matrixAny", unfollowed := true, recurses := true, apart := false }
def MatrixAnySaid : Prop := matrixAnyRow.holds Try.pinned (OpenSpec.ofChange matrixAnySpec)

/-- ITS FALSE NEIGHBOUR: 'it returns false'. Refute it at one input. -/
def matrixAnyWrong : ChangeSpec := { name := "matrixAny", fn := fun _ => fun
  | [d1, d2, d3] => { results := [.lit (.bool false)], args := [d1, d2, d3] }
  | _ => none }
def MatrixAnyWrongFalsely : Prop := matrixAnyRow.holds Try.pinned (OpenSpec.ofChange matrixAnyWrong)

/-- 'cauterylaw26.MatrixUndone': WHATEVER THE INPUT: true; the input reads as it did. -/
def matrixUndoneSpec : ChangeSpec := { name := "matrixUndone", fn := fun _ => fun
  | [d1, d2] => { results := [.lit (.bool true)], args := [d1, d2] }
  | _ => none }
def matrixUndoneRow : OpenClaim := { program := "ytfnneneaalaagaa", sum := "c224637ae72943de0e390b6bdf2c5c670d6706e2efb5fe116ed44984938b4a0a", func := "cautery/cauterylaw26.MatrixUndone", spec := "matrixUndone", unfollowed := true, recurses := true, apart := false }
def MatrixUndoneSaid : Prop := matrixUndoneRow.holds Try.pinned (OpenSpec.ofChange matrixUndoneSpec)

/-- ITS FALSE NEIGHBOUR: 'it returns false'. Refute it at one input. -/
def matrixUndoneWrong : ChangeSpec := { name := "matrixUndone", fn := fun _ => fun
  | [d1, d2] => { results := [.lit (.bool false)], args := [d1, d2] }
  | _ => none }
def MatrixUndoneWrongFalsely : Prop := matrixUndoneRow.holds Try.pinned (OpenSpec.ofChange matrixUndoneWrong)

/- THE SECOND FORM. 'bulk': how many values and letters a reading holds, each counted each time it is reached (what is shared counts as often as it is met; a slice's spare places count too). A statement '..UptoSaid' is the law's where the arguments, and the package variables that the reading takes, are together of bulk at most 1048576: NARROWER than '..Said'. Prove '..Said' where nothing that the law and all that it calls make is longer than what came in: it says more and counts as full. Else prove '..UptoSaid'. A law counts once. -/
mutual
def uptoBulk {H : Type} : DataW H → Nat
  | .lit (.string bytes) => bytes.length + 1
  | .lit _ => 1
  | .nil => 1
  | .ptr d => uptoBulk d + 1
  | .slice elems spare => uptoBulkAll elems + uptoBulkAll spare + 1
  | .agg parts => uptoBulkAll parts + 1
  | .iface _ d => uptoBulk d + 1
  | .map entries => uptoBulkEntries entries + 1
  | .held _ => 1
def uptoBulkAll {H : Type} : List (DataW H) → Nat
  | [] => 0
  | d :: r => uptoBulk d + uptoBulkAll r
def uptoBulkEntries {H : Type} : List (Lit × DataW H) → Nat
  | [] => 0
  | x :: r => uptoBulkEntry x + uptoBulkEntries r
def uptoBulkEntry {H : Type} : Lit × DataW H → Nat
  | (.string bytes, d) => bytes.length + uptoBulk d + 1
  | (_, d) => uptoBulk d + 1
 end
def uptoSmall : (H : Type) → List (DataW H) → Bool := fun _ ds => decide (uptoBulkAll ds ≤ 1048576)
def OpenSpec.upto (s : _root_.Go.ChangeSpec) : _root_.Go.OpenSpec := { _root_.Go.OpenSpec.ofChange s with cond := some uptoSmall }

/-- 'cauterylaw28.SqueezeTold', WHERE WHAT IT READS IS OF BULK AT MOST 1048576: true; the input reads as it did. -/
def squeezeToldUptoRow : OpenClaim := { program := "ytfnneneaalaagaa", sum := "c224637ae72943de0e390b6bdf2c5c670d6706e2efb5fe116ed44984938b4a0a", func := "cautery/cauterylaw28.SqueezeTold", spec := "squeezeTold", apart := false, narrowed := true }
def SqueezeToldUptoSaid : Prop := squeezeToldUptoRow.holds Try.pinned (OpenSpec.upto squeezeToldSpec)

/-- 'cauterylaw28.SqueezeExpand', WHERE WHAT IT READS IS OF BULK AT MOST 1048576: true; the input reads as it did. -/
def squeezeExpandUptoRow : OpenClaim := { program := "ytfnneneaalaagaa", sum := "c224637ae72943de0e390b6bdf2c5c670d6706e2efb5fe116ed44984938b4a0a", func := "cautery/cauterylaw28.SqueezeExpand", spec := "squeezeExpand", apart := false, narrowed := true }
def SqueezeExpandUptoSaid : Prop := squeezeExpandUptoRow.holds Try.pinned (OpenSpec.upto squeezeExpandSpec)

/-- 'cauterylaw28.SqueezeBack', WHERE WHAT IT READS IS OF BULK AT MOST 1048576: true; the input reads as it did. -/
def squeezeBackUptoRow : OpenClaim := { program := "ytfnneneaalaagaa", sum := "c224637ae72943de0e390b6bdf2c5c670d6706e2efb5fe116ed44984938b4a0a", func := "cautery/cauterylaw28.SqueezeBack", spec := "squeezeBack", apart := false, narrowed := true }
def SqueezeBackUptoSaid : Prop := squeezeBackUptoRow.holds Try.pinned (OpenSpec.upto squeezeBackSpec)

/-- 'cauterylaw28.SqueezeRuns', WHERE WHAT IT READS IS OF BULK AT MOST 1048576: true; the input reads as it did. -/
def squeezeRunsUptoRow : OpenClaim := { program := "ytfnneneaalaagaa", sum := "c224637ae72943de0e390b6bdf2c5c670d6706e2efb5fe116ed44984938b4a0a", func := "cautery/cauterylaw28.SqueezeRuns", spec := "squeezeRuns", apart := false, narrowed := true }
def SqueezeRunsUptoSaid : Prop := squeezeRunsUptoRow.holds Try.pinned (OpenSpec.upto squeezeRunsSpec)

/-- 'cauterylaw26.MatrixPick', WHERE WHAT IT READS IS OF BULK AT MOST 1048576: true; the input reads as it did. -/
def matrixPickUptoRow : OpenClaim := { program := "ytfnneneaalaagaa", sum := "c224637ae72943de0e390b6bdf2c5c670d6706e2efb5fe116ed44984938b4a0a", func := "cautery/cauterylaw26.MatrixPick", spec := "matrixPick", unfollowed := true, recurses := true, apart := false, narrowed := true }
def MatrixPickUptoSaid : Prop := matrixPickUptoRow.holds Try.pinned (OpenSpec.upto matrixPickSpec)

/-- 'cauterylaw26.MatrixInverse', WHERE WHAT IT READS IS OF BULK AT MOST 1048576: true; the input reads as it did. -/
def matrixInverseUptoRow : OpenClaim := { program := "ytfnneneaalaagaa", sum := "c224637ae72943de0e390b6bdf2c5c670d6706e2efb5fe116ed44984938b4a0a", func := "cautery/cauterylaw26.MatrixInverse", spec := "matrixInverse", unfollowed := true, recurses := true, apart := false, narrowed := true }
def MatrixInverseUptoSaid : Prop := matrixInverseUptoRow.holds Try.pinned (OpenSpec.upto matrixInverseSpec)

/-- 'cauterylaw26.MatrixMul', WHERE WHAT IT READS IS OF BULK AT MOST 1048576: true; the input reads as it did. -/
def matrixMulUptoRow : OpenClaim := { program := "ytfnneneaalaagaa", sum := "c224637ae72943de0e390b6bdf2c5c670d6706e2efb5fe116ed44984938b4a0a", func := "cautery/cauterylaw26.MatrixMul", spec := "matrixMul", unfollowed := true, recurses := true, apart := false, narrowed := true }
def MatrixMulUptoSaid : Prop := matrixMulUptoRow.holds Try.pinned (OpenSpec.upto matrixMulSpec)

/-- 'cauterylaw26.MatrixAny', WHERE WHAT IT READS IS OF BULK AT MOST 1048576: true; the input reads as it did. -/
def matrixAnyUptoRow : OpenClaim := { program := "ytfnneneaalaagaa", sum := "c224637ae72943de0e390b6bdf2c5c670d6706e2efb5fe116ed44984938b4a0a", func := "cautery/cauterylaw26.MatrixAny", spec := "matrixAny", unfollowed := true, recurses := true, apart := false, narrowed := true }
def MatrixAnyUptoSaid : Prop := matrixAnyUptoRow.holds Try.pinned (OpenSpec.upto matrixAnySpec)

/-- 'cauterylaw26.MatrixUndone', WHERE WHAT IT READS IS OF BULK AT MOST 1048576: true; the input reads as it did. -/
def matrixUndoneUptoRow : OpenClaim := { program := "ytfnneneaalaagaa", sum := "c224637ae72943de0e390b6bdf2c5c670d6706e2efb5fe116ed44984938b4a0a", func := "cautery/cauterylaw26.MatrixUndone", spec := "matrixUndone", unfollowed := true, recurses := true, apart := false, narrowed := true }
def MatrixUndoneUptoSaid : Prop := matrixUndoneUptoRow.holds Try.pinned (OpenSpec.upto matrixUndoneSpec)

end Rows
end Go.Proofs.Ytfnneneaalaagaa
