/- The package ptr: absence; the reference's likes. -/
import Derived.Test.YthogefehainmdaaPtr3
import Derived.Test.YthogefehainmdaaRef01
namespace Go.Proofs.Ythogefehainmdaa
open Go.RowKit
set_option linter.unusedSimpArgs false

def PT.absent (p : PT) : Bool := p.may && !(p == PT.hole) && (p.a0 == 0)

set_option maxRecDepth 100000 in
theorem rMay_any (p : PT) (w : World) : Calls Try.prog 47 #[p.val] w fun e w' => e = .returned (.bool p.may) ∧ Below w.heap.size w w' := by
  have h33 := p.c33
  have h34 := p.c34
  have hb : Below w.heap.size w (w.alloc (.cells p.cells.toArray 53)) := (Below.refl _ _).alloc (Nat.le_refl _) _
  unfold PT.val u32 at *
  generalize p.cells.toArray = C at h33 h34 hb
  have e1 := u32_eq p.a1 0
  have e2 : ((p.a1.toNat : Int) != (p.a0.toNat : Int)) = (p.a0 != p.a1) := by
    rw [bne, bne, u32_eq]
    by_cases h : p.a0 = p.a1
    · rw [h]
    · rw [beq_eq_false_iff_ne.mpr h, beq_eq_false_iff_ne.mpr (fun e => h e.symm)]
  simp only [UInt32.toNat_zero, Int.natCast_zero] at e1
  by_cases h : p.a0 = 0
  · have hm : p.may = (p.a1 == 0) := by rw [PT.may, if_pos h]
    rw [hm]
    have h0 : ((p.a0.toNat : Int) == 0) = true := by rw [h]; rfl
    clear h hm
    go_enter Try.func47, Try.ntmps47
    go_wp2
    go_ret
    exact ⟨rfl, hb⟩
  · have hm : p.may = (p.a0 != p.a1) := by rw [PT.may, if_neg h]
    rw [hm]
    have h0 : ((p.a0.toNat : Int) == 0) = false := by
      have : ¬ (p.a0.toNat : Int) = 0 := fun e => h (UInt32.toNat_inj.mp (by simpa using e))
      simpa using this
    clear h hm
    go_enter Try.func47, Try.ntmps47
    go_wp2
    go_ret
    exact ⟨rfl, hb⟩

set_option maxRecDepth 100000 in
theorem rIsHole_any (p : PT) (w : World) : Calls Try.prog 49 #[p.val] w fun e w' => e = .returned (.bool (p == PT.hole)) ∧ Below w.heap.size w w' := by
  unfold PT.val
  go_enter Try.func49, Try.ntmps49
  go_wp2_with (first
    | (refine wpBox 53 _ rfl p.cells rfl rfl ?_; intro w1 hv1 hb1)
    | (refine stepV (exec_load 53 _ rfl _ _ rfl p.cells _ hv1.all Try.underlying53 rfl p.info) rfl ?_)
    | (refine stepV (exec_build 53 _ rfl PT.hole.cells ptr_zero) rfl ?_)
    | (refine stepV (exec_eql 53 _ _ _ rfl _ _ rfl rfl ptr_guard _ (ptr_eqlA p PT.hole _)) rfl ?_))
  go_ret
  exact ⟨rfl, hb1⟩

set_option maxHeartbeats 800000 in
set_option maxRecDepth 100000 in
theorem IsAbsent_any (p : PT) (w : World) : Calls Try.prog 50 #[p.val] w fun e w' => e = .returned (.bool p.absent) ∧ Below w.heap.size w w' := by
  have cM := fun W => May_any p W
  have cH := fun W => IsHole_any p W
  have e0 := u32_eq p.a0 0
  simp only [UInt32.toNat_zero, Int.natCast_zero] at e0
  unfold PT.val at *
  have ha : p.absent = (p.may && !(p == PT.hole) && (p.a0 == 0)) := rfl
  cases hm : p.may with
  | false =>
    rw [hm] at cM
    rw [ha, hm]
    clear ha hm
    go_enter Try.func50, Try.ntmps50
    go_wp2_with (first
      | (refine wpBox 53 _ rfl p.cells rfl rfl ?_; intro w1 hv1 hb1; have h33 := PT.cell33 hv1)
      | (refine stepV (exec_load 53 _ rfl _ _ rfl p.cells _ hv1.all Try.underlying53 rfl p.info) rfl ?_)
      | (go_at_call 46; (with_reducible refine (cM _).mono ?_); rintro e w2 ⟨rfl, hb2⟩; replace hv1 := hv1.below hb2; replace h33 := cell_below hb2 h33; replace hb1 := below_two hb1 hb1.size hb2; clear hb2)
      | (go_at_call 48; (with_reducible refine (cH _).mono ?_); rintro e w2 ⟨rfl, hb2⟩; replace hv1 := hv1.below hb2; replace h33 := cell_below hb2 h33; replace hb1 := below_two hb1 hb1.size hb2; clear hb2))
    go_ret
    exact ⟨rfl, hb1⟩
  | true =>
    rw [hm] at cM
    cases hh : (p == PT.hole) with
    | true =>
      rw [hh] at cH
      rw [ha, hm, hh]
      clear ha hm hh
      go_enter Try.func50, Try.ntmps50
      go_wp2_with (first
        | (refine wpBox 53 _ rfl p.cells rfl rfl ?_; intro w1 hv1 hb1; have h33 := PT.cell33 hv1)
        | (refine stepV (exec_load 53 _ rfl _ _ rfl p.cells _ hv1.all Try.underlying53 rfl p.info) rfl ?_)
        | (go_at_call 46; (with_reducible refine (cM _).mono ?_); rintro e w2 ⟨rfl, hb2⟩; replace hv1 := hv1.below hb2; replace h33 := cell_below hb2 h33; replace hb1 := below_two hb1 hb1.size hb2; clear hb2)
        | (go_at_call 48; (with_reducible refine (cH _).mono ?_); rintro e w2 ⟨rfl, hb2⟩; replace hv1 := hv1.below hb2; replace h33 := cell_below hb2 h33; replace hb1 := below_two hb1 hb1.size hb2; clear hb2))
      go_ret
      exact ⟨rfl, hb1⟩
    | false =>
      rw [hh] at cH
      rw [ha, hm, hh, Bool.not_false, Bool.and_true, Bool.true_and]
      clear ha hm hh
      go_enter Try.func50, Try.ntmps50
      go_wp2_with (first
        | (refine wpBox 53 _ rfl p.cells rfl rfl ?_; intro w1 hv1 hb1; have h33 := PT.cell33 hv1)
        | (refine stepV (exec_load 53 _ rfl _ _ rfl p.cells _ hv1.all Try.underlying53 rfl p.info) rfl ?_)
        | (go_at_call 46; (with_reducible refine (cM _).mono ?_); rintro e w2 ⟨rfl, hb2⟩; replace hv1 := hv1.below hb2; replace h33 := cell_below hb2 h33; replace hb1 := below_two hb1 hb1.size hb2; clear hb2)
        | (go_at_call 48; (with_reducible refine (cH _).mono ?_); rintro e w2 ⟨rfl, hb2⟩; replace hv1 := hv1.below hb2; replace h33 := cell_below hb2 h33; replace hb1 := below_two hb1 hb1.size hb2; clear hb2))
      go_ret
      exact ⟨rfl, hb1⟩

set_option maxHeartbeats 800000 in
set_option maxRecDepth 100000 in
theorem rIsAbsent_any (p : PT) (w : World) : Calls Try.prog 51 #[p.val] w fun e w' => e = .returned (.bool p.absent) ∧ Below w.heap.size w w' := by
  have cM := fun W => rMay_any p W
  have cH := fun W => rIsHole_any p W
  have e0 := u32_eq p.a0 0
  simp only [UInt32.toNat_zero, Int.natCast_zero] at e0
  unfold PT.val at *
  have ha : p.absent = (p.may && !(p == PT.hole) && (p.a0 == 0)) := rfl
  cases hm : p.may with
  | false =>
    rw [hm] at cM
    rw [ha, hm]
    clear ha hm
    go_enter Try.func51, Try.ntmps51
    go_wp2_with (first
      | (refine wpBox 53 _ rfl p.cells rfl rfl ?_; intro w1 hv1 hb1; have h33 := PT.cell33 hv1)
      | (refine stepV (exec_load 53 _ rfl _ _ rfl p.cells _ hv1.all Try.underlying53 rfl p.info) rfl ?_)
      | (go_at_call 47; (with_reducible refine (cM _).mono ?_); rintro e w2 ⟨rfl, hb2⟩; replace hv1 := hv1.below hb2; replace h33 := cell_below hb2 h33; replace hb1 := below_two hb1 hb1.size hb2; clear hb2)
      | (go_at_call 49; (with_reducible refine (cH _).mono ?_); rintro e w2 ⟨rfl, hb2⟩; replace hv1 := hv1.below hb2; replace h33 := cell_below hb2 h33; replace hb1 := below_two hb1 hb1.size hb2; clear hb2))
    go_ret
    exact ⟨rfl, hb1⟩
  | true =>
    rw [hm] at cM
    cases hh : (p == PT.hole) with
    | true =>
      rw [hh] at cH
      rw [ha, hm, hh]
      clear ha hm hh
      go_enter Try.func51, Try.ntmps51
      go_wp2_with (first
        | (refine wpBox 53 _ rfl p.cells rfl rfl ?_; intro w1 hv1 hb1; have h33 := PT.cell33 hv1)
        | (refine stepV (exec_load 53 _ rfl _ _ rfl p.cells _ hv1.all Try.underlying53 rfl p.info) rfl ?_)
        | (go_at_call 47; (with_reducible refine (cM _).mono ?_); rintro e w2 ⟨rfl, hb2⟩; replace hv1 := hv1.below hb2; replace h33 := cell_below hb2 h33; replace hb1 := below_two hb1 hb1.size hb2; clear hb2)
        | (go_at_call 49; (with_reducible refine (cH _).mono ?_); rintro e w2 ⟨rfl, hb2⟩; replace hv1 := hv1.below hb2; replace h33 := cell_below hb2 h33; replace hb1 := below_two hb1 hb1.size hb2; clear hb2))
      go_ret
      exact ⟨rfl, hb1⟩
    | false =>
      rw [hh] at cH
      rw [ha, hm, hh, Bool.not_false, Bool.and_true, Bool.true_and]
      clear ha hm hh
      go_enter Try.func51, Try.ntmps51
      go_wp2_with (first
        | (refine wpBox 53 _ rfl p.cells rfl rfl ?_; intro w1 hv1 hb1; have h33 := PT.cell33 hv1)
        | (refine stepV (exec_load 53 _ rfl _ _ rfl p.cells _ hv1.all Try.underlying53 rfl p.info) rfl ?_)
        | (go_at_call 47; (with_reducible refine (cM _).mono ?_); rintro e w2 ⟨rfl, hb2⟩; replace hv1 := hv1.below hb2; replace h33 := cell_below hb2 h33; replace hb1 := below_two hb1 hb1.size hb2; clear hb2)
        | (go_at_call 49; (with_reducible refine (cH _).mono ?_); rintro e w2 ⟨rfl, hb2⟩; replace hv1 := hv1.below hb2; replace h33 := cell_below hb2 h33; replace hb1 := below_two hb1 hb1.size hb2; clear hb2))
      go_ret
      exact ⟨rfl, hb1⟩
end Go.Proofs.Ythogefehainmdaa
