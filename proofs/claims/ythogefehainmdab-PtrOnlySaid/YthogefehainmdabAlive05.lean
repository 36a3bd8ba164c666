/- Layer 5: the live question. -/
import Derived.Test.YthogefehainmdabPtr7
import Derived.Test.YthogefehainmdabPtr8
namespace Go.Proofs.Ythogefehainmdab
open Go.RowKit
set_option linter.unusedSimpArgs false

def p05 : PT := ⟨1 :: List.replicate 31 0, by decide, 2, 3, 0⟩
theorem p05_dec : decP (encL p05) = p05 ∧ decE (encL p05) = 0 := by decide +kernel

set_option maxHeartbeats 3200000 in
set_option maxRecDepth 100000 in
theorem alive05_any (w : World) : Calls Try.prog 10 #[] w fun e w' => e = .returned (.bool true) ∧ Below w.heap.size w w' := by
  have cE : ∀ W, Calls Try.prog 15 #[.agg p05.cells.toArray] W fun e w' => e = .returned (.agg ((encL p05).map cb).toArray) ∧ Below W.heap.size W w' := fun W => Encode_any p05 W
  have cD : ∀ W v, RB W v (encL p05) → Calls Try.prog 11 #[v] W fun e w' => e = .returned (.tuple #[.agg p05.cells.toArray, .int .i64 0]) ∧ Below W.heap.size W w' := fun W v h => by
    have := Decode_any v (encL p05) W h (by rw [encL_length]; omega)
    rw [p05_dec.1, p05_dec.2] at this
    exact this
  have cN : ∀ W, Calls Try.prog 17 #[.agg PL.none.cells.toArray] W fun e w' => ∃ v, e = .returned v ∧ OB w' W.heap.size v (nodeL PL.none) ∧ Below W.heap.size W w' := fun W => Node_any PL.none W
  have cH : ∀ W, Calls Try.prog 22 #[.agg PT.hole.cells.toArray] W fun e w' => e = .returned (.bool true) ∧ Below W.heap.size W w' := fun W => by
    have := IsHole_any PT.hole W
    rw [show (PT.hole == PT.hole) = true by decide] at this
    exact this
  have hq : ∀ W, (binOp .eql 33 (.agg p05.cells.toArray) (.agg p05.cells.toArray)).run Try.prog W = .ok (.bool true) W := fun W => by
    have := ptr_eqlA p05 p05 W
    rw [show (p05 == p05) = true by decide] at this
    exact this
  have hnl : (nodeL PL.none).length = 256 := by decide +kernel
  have h32 : ((encL p05).map cb)[32]? = some (.int .u8 2) := by kernel_rfl
  have h36 : ((encL p05).map cb)[36]? = some (.int .u8 3) := by kernel_rfl
  have H32 := Lib.hid h32
  have H36 := Lib.hid h36
  have HNL := Lib.hid hnl
  have HQ := Lib.hid hq
  have hbld : Program.built Try.prog 33 [(0, .agg (p05.hash.map cb).toArray), (1, .int .u32 2), (2, .agg [u32 3, u32 0].toArray)] = some p05.cells.toArray := by kernel_rfl
  have HB := Lib.hid hbld
  have hel := encL_length p05
  have HEL := Lib.hid hel
  clear h32 h36 hnl hq hbld hel
  go_enter Try.func10, Try.ntmps10
  go_wp2_with (first
    | (refine stepV (exec_buildL 29 [(0, .const (.int .u8 1))] rfl [(0, .int .u8 1)] rfl (p05.hash.map cb) (by kernel_rfl)) rfl ?_)
    | (refine stepV (exec_buildL 31 [(0, .const (.int .u32 3)), (1, .const (.int .u32 0))] rfl [(0, .int .u32 3), (1, .int .u32 0)] rfl [u32 3, u32 0] (by kernel_rfl)) rfl ?_)
    | (refine stepV (exec_buildL 33 [(0, .tmp 5), (1, .const (.int .u32 2)), (2, .tmp 6)] rfl [(0, .agg (p05.hash.map cb).toArray), (1, .int .u32 2), (2, .agg [u32 3, u32 0].toArray)] rfl p05.cells HB.out) rfl ?_)
    | (refine wpVar 33 rfl PT.hole.val PT.hole.cells (by kernel_rfl) rfl 1 _ rfl p05.cells rfl rfl (by rw [PT.len, PT.len]) (PT.info _) (PT.one _) rfl rfl ?_; intro w1 hv1 hb1)
    | (refine wpVar 40 rfl (bytesV (List.replicate 44 0)) ((List.replicate 44 (0 : UInt8)).map cb) (by kernel_rfl) rfl 2 _ rfl ((encL p05).map cb) rfl rfl (by simp [encL_length]) (by rw [List.length_map, encL_length]; kernel_rfl) (one_u8 _) rfl rfl ?_; intro w3 hv3 hb3; have hlt2 := hv1.lt; replace hv1 := hv1.below hb3; replace hb1 := below_two hb1 hb1.size hb3; clear hb3; have hr3 : RB w3 (.slice (some ⟨w2.heap.size, 0, none⟩) 44 44) (encL p05) := by
        have h := RR.range (T := B8) (w := w3) (b := w2.heap.size) (o := 0) (xs := encL p05) (by rw [U8_all]; exact hv3.all) (by rw [HEL.out]; decide)
        rw [HEL.out] at h
        exact h)
    | (go_at_call 15; (with_reducible refine (cE _).mono ?_); rintro e w2 ⟨rfl, hb2⟩; replace hv1 := hv1.below hb2; replace hb1 := below_two hb1 hb1.size hb2; clear hb2)
    | (go_at_call 11; (with_reducible refine (cD _ _ hr3).mono ?_); rintro e w4 ⟨rfl, hb4⟩; replace hv1 := hv1.below hb4; replace hv3 := hv3.below hb4; replace hb1 := below_two hb1 hb1.size hb4; clear hb4 hr3)
    | (refine wpVar 33 rfl PT.hole.val PT.hole.cells (by kernel_rfl) rfl 3 _ rfl p05.cells rfl rfl (by rw [PT.len, PT.len]) (PT.info _) (PT.one _) rfl rfl ?_; intro w5 hv5 hb5; replace hv1 := hv1.below hb5; replace hv3 := hv3.below hb5; replace hb1 := below_two hb1 hb1.size hb5; clear hb5; have k32 := (hv3.cell 32).trans H32.out; have k36 := (hv3.cell 36).trans H36.out)
    | (refine stepV (exec_load 33 _ rfl _ _ rfl p05.cells _ hv5.all Try.underlying33 rfl (PT.info _)) rfl ?_)
    | (refine stepV (exec_load 33 _ rfl _ _ rfl p05.cells _ hv1.all Try.underlying33 rfl (PT.info _)) rfl ?_)
    | (refine stepV (exec_eql 33 _ _ _ rfl p05.cells.toArray p05.cells.toArray rfl rfl ptr_guard _ (HQ.out _)) rfl ?_)
    | (refine stepV (exec_zero 36 rfl PL.none.cells pl_zero) rfl ?_)
    | (refine stepV (exec_zero 33 rfl PT.hole.cells ptr_zero) rfl ?_)
    | (go_at_call 17; (with_reducible refine (cN _).mono ?_); rintro e w6 ⟨v6, rfl, ho6, hb6⟩; obtain ⟨A6, c6, rfl, hc6⟩ := ho6.reads.len; have hn6 := HNL.out; replace hb1 := below_two hb1 hb1.size hb6; clear hb6)
    | (go_at_call 22; (with_reducible refine (cH _).mono ?_); rintro e w7 ⟨rfl, hb7⟩; replace hb1 := below_two hb1 hb1.size hb7; clear hb7))
  go_ret
  exact ⟨rfl, hb1⟩
end Go.Proofs.Ythogefehainmdab
