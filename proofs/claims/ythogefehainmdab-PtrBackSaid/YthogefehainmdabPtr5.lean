/- The reference's Encode. -/
import Derived.Test.YthogefehainmdabPtr4
import Derived.Test.YthogefehainmdabKit2
namespace Go.Proofs.Ythogefehainmdab
open Go.RowKit
set_option linter.unusedSimpArgs false

set_option maxHeartbeats 1600000 in
set_option maxRecDepth 100000 in
theorem rEncode_any (p : PT) (w : World) : Calls Try.prog 32 #[p.val] w fun e w' => ∃ v, e = .returned v ∧ OB w' w.heap.size v (encL p) ∧ Below w.heap.size w w' := by
  unfold PT.val
  go_enter Try.func32, Try.ntmps32
  go_wp2_with (first
    | (refine wpBox 33 _ rfl p.cells rfl rfl ?_; intro w1 hv1 hb1; have hb0 : Below w1.heap.size w1 (w1.alloc (.cells #[] 5)) := (Below.refl _ _).alloc (Nat.le_refl _) _; have ho0 : OB (w1.alloc (.cells #[] 5)) w1.heap.size (.slice (some ⟨w1.heap.size, 0, none⟩) 0 0) [] := OB.lit w1 w1.heap.size [] #[] rfl (Nat.le_refl _) (by simp); have hr0 := PT.rb_hash (hv1.below hb0))
    | (at_builtin; refine appBs w1.heap.size (.tmp 4) (.tmp 6) _ _ [] p.hash ho0 hr0 hb0 hb0.size (by simp) (by rw [p.hl]; omega) rfl rfl rfl rfl ?_; clear ho0 hr0; intro v5 w2 ho2 hb2 hg2 hat2 hs2; rw [List.nil_append] at ho2; clear hg2 hat2 hb0; have h32 := cell_below hb2 (PT.cell32 hv1); have h33 := cell_below hb2 (PT.cell33 hv1); have h34 := cell_below hb2 (PT.cell34 hv1); replace hb1 := below_two hb1 hb1.size hb2; clear hv1 hb2)
    | (go_at_call 35; (with_reducible refine (rPut32_any _ p.hash p.birth.toNat _ ho2.reads (by rw [p.hl]; omega) p.birth.toNat_lt).mono ?_); rintro e w3 ⟨v3, rfl, ho3, hb3⟩; replace h32 := cell_below hb3 h32; replace h33 := cell_below hb3 h33; replace h34 := cell_below hb3 h34; replace hb1 := below_two hb1 hb1.size hb3; clear ho2 hb3)
    | (go_at_call 35; (with_reducible refine (rPut32_any _ _ p.a0.toNat _ ho3.reads (by simp [p.hl, put32L]) p.a0.toNat_lt).mono ?_); rintro e w4 ⟨v4, rfl, ho4, hb4⟩; replace h32 := cell_below hb4 h32; replace h33 := cell_below hb4 h33; replace h34 := cell_below hb4 h34; replace hb1 := below_two hb1 hb1.size hb4; clear ho3 hb4)
    | (go_at_call 35; (with_reducible refine (rPut32_any _ _ p.a1.toNat _ ho4.reads (by simp [p.hl, put32L]) p.a1.toNat_lt).mono ?_); rintro e w5 ⟨v5, rfl, ho5, hb5⟩; have hlow := hb1.size; replace hb1 := below_two hb1 hb1.size hb5; clear ho4 hb5))
  go_ret
  exact ⟨_, rfl, ho5.lower hlow, hb1⟩
end Go.Proofs.Ythogefehainmdab
