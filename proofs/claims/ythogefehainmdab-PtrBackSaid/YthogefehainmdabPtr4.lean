/- The package ptr: absence; the reference's likes. -/
import Derived.Test.YthogefehainmdabPtr3
import Derived.Test.YthogefehainmdabRef01
namespace Go.Proofs.Ythogefehainmdab
open Go.RowKit
set_option linter.unusedSimpArgs false

def PT.absent (p : PT) : Bool := p.may && !(p == PT.hole) && (p.a0 == 0)

set_option maxRecDepth 100000 in
theorem rMay_any (p : PT) (w : World) : Calls Try.prog 25 #[p.val] w fun e w' => e = .returned (.bool p.may) ∧ Below w.heap.size w w' := by
  have h33 := p.c33
  have h34 := p.c34
  have hb : Below w.heap.size w (w.alloc (.cells p.cells.toArray 33)) := (Below.refl _ _).alloc (Nat.le_refl _) _
  unfold PT.val u32 at *
  generalize p.cells.toArray = C at h33 h34 hb
  have e1 := u32_eq p.a1 0
  have e2 : ((p.a1.toNat : Int) != (p.a0.toNat : Int)) = (p.a0 != p.a1) := by
    rw [bne, bne, u32_eq]
    by_cases h : p.a0 = p.a1
    · rw [h]
    · rw [beq_eq_false_iff_ne.mpr h, beq_eq_false_iff_ne.mpr (fun e => h e.symm)]
  simp only [UInt32.toNat_zero, Int.natCast_zero] at e1
  by_cases h : p.a0 = 0
  · have hm : p.may = (p.a1 == 0) := by rw [PT.may, if_pos h]
    rw [hm]
    have h0 : ((p.a0.toNat : Int) == 0) = true := by rw [h]; rfl
    clear h hm
    go_enter Try.func25, Try.ntmps25
    go_wp2
    go_ret
    exact ⟨rfl, hb⟩
  · have hm : p.may = (p.a0 != p.a1) := by rw [PT.may, if_neg h]
    rw [hm]
    have h0 : ((p.a0.toNat : Int) == 0) = false := by
      have : ¬ (p.a0.toNat : Int) = 0 := fun e => h (UInt32.toNat_inj.mp (by simpa using e))
      simpa using this
    clear h hm
    go_enter Try.func25, Try.ntmps25
    go_wp2
    go_ret
    exact ⟨rfl, hb⟩

end Go.Proofs.Ythogefehainmdab
