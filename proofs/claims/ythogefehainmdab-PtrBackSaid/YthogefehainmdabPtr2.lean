/- The package ptr: holes. -/
import Derived.Test.YthogefehainmdabPtr
import Derived.Test.YthogefehainmdabAgg
namespace Go.Proofs.Ythogefehainmdab
open Go.RowKit

theorem PT.info (p : PT) : (Try.prog.info? 33).map (·.size) = some p.cells.length := by rw [PT.len]; kernel_rfl
theorem PT.one (p : PT) : ∀ v ∈ p.cells, v.oneCell' = true := by
  intro v hv
  simp only [PT.cells, List.mem_append, List.mem_map, List.mem_cons, List.not_mem_nil, or_false] at hv
  rcases hv with ⟨x, _, rfl⟩ | rfl | rfl | rfl <;> rfl
theorem ptr_eqlA (p q : PT) (w : World) : (binOp .eql 33 (.agg p.cells.toArray) (.agg q.cells.toArray)).run Try.prog w = .ok (.bool (p == q)) w := ptr_eql p q w
theorem ptr_zero : Program.built Try.prog 33 [] = some PT.hole.cells.toArray := by kernel_rfl
theorem ptr_guard : Try.prog.eqGuardType Try.prog.depth 33 = false := by kernel_rfl

set_option maxRecDepth 100000 in
theorem IsHole_any (p : PT) (w : World) : Calls Try.prog 22 #[p.val] w fun e w' => e = .returned (.bool (p == PT.hole)) ∧ Below w.heap.size w w' := by
  unfold PT.val
  go_enter Try.func22, Try.ntmps22
  go_wp2_with (first
    | (refine wpBox 33 _ rfl p.cells rfl rfl ?_; intro w1 hv1 hb1)
    | (refine stepV (exec_load 33 _ rfl _ _ rfl p.cells _ hv1.all Try.underlying33 rfl p.info) rfl ?_)
    | (refine stepV (exec_build 33 _ rfl PT.hole.cells ptr_zero) rfl ?_)
    | (refine stepV (exec_eql 33 _ _ _ rfl _ _ rfl rfl ptr_guard _ (ptr_eqlA p PT.hole _)) rfl ?_))
  go_ret
  exact ⟨rfl, hb1⟩
end Go.Proofs.Ythogefehainmdab
