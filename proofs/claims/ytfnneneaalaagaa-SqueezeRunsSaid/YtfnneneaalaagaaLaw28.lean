/- Layer 28: alive; the laws on what is told. -/
import Derived.Test.YtfnneneaalaagaaSqz5
import Derived.Test.YtfnneneaalaagaaSqz7
namespace Go.Proofs.Ytfnneneaalaagaa
open Go.RowKit
set_option linter.unusedSimpArgs false
set_option linter.unusedVariables false

theorem sq_aaaaa : sqL [97, 97, 97, 97, 97] = [5, 0, 97, 128, 1] := by
  have m0 : matchR [97, 97, 97, 97, 97] 0 = (0, 0) := by decide +kernel
  have m1 : matchR [97, 97, 97, 97, 97] 1 = (4, 1) := by decide +kernel
  have hp : plainL [97] = [0, 97] := by rw [plainL_step [97] 1 (by simp) (by simp)]; simp [plainL_nil]
  have h5 : putL 5 = [5] := by rw [putL, if_pos (by omega)]; rfl
  rw [sqL, if_neg (by simp), sqG_next _ 0 0 (by simp) (by rw [m0]), sqG_like _ 0 (0 + 1) (by simp) (by rw [m1]; simp), m1, sqG_end _ _ _ (by simp)]
  simp [hp, plainL_nil, h5]
theorem ex_nil : exP [] = (2, []) := by
  have : tkE [] = 2 := by decide +kernel
  rw [exP, this, if_pos (by decide)]

set_option maxHeartbeats 1600000 in
set_option maxRecDepth 100000 in
theorem alive28_any (w : World) : Calls Try.prog 12 #[] w fun e w' => e = .returned (.bool true) ∧ Below w.heap.size w w' := by
  have cS : ∀ W v, RB W v [97, 97, 97, 97, 97] → Calls Try.prog 13 #[v] W fun e w' => ∃ v', e = .returned (.tuple #[v', .int .i64 0]) ∧ OB w' W.heap.size v' [5, 0, 97, 128, 1] ∧ Below W.heap.size W w' := fun W v h => by
    have := Squeeze_any v _ W h (by simp)
    rw [sq_aaaaa] at this
    exact this
  have cE : ∀ W, Calls Try.prog 17 #[.slice none 0 0] W fun e w' => ∃ v', e = .returned (.tuple #[v', .int .i64 2]) ∧ True ∧ Below W.heap.size W w' := fun W => by
    have := Expand_any (.slice none 0 0) [] W (RR.nil _) (by simp)
    rw [ex_nil] at this
    exact this.mono fun e w' ⟨v', h1, _, h3⟩ => ⟨v', h1, trivial, h3⟩
  have CS := Lib.hid cS
  have CE := Lib.hid cE
  clear cS cE
  have hcv := const_conv w #[.int .u8 97, .int .u8 97, .int .u8 97, .int .u8 97, .int .u8 97] 5 5
  have H0 : SH Nil w (w.alloc (.cells #[.int .u8 97, .int .u8 97, .int .u8 97, .int .u8 97, .int .u8 97] 5 (5, 6))) [] := (SH.start Nil w).step (alloc_belowAt w _)
  have hr : RB (w.alloc (.cells #[.int .u8 97, .int .u8 97, .int .u8 97, .int .u8 97, .int .u8 97] 5 (5, 6))) (.slice (some ⟨w.heap.size, 0, none⟩) 5 5) [97, 97, 97, 97, 97] := const_rr w [97, 97, 97, 97, 97] #[.int .u8 97, .int .u8 97, .int .u8 97, .int .u8 97, .int .u8 97] (5, 6) rfl (by simp)
  go_enter Try.func12, Try.ntmps12
  go_wp2_with (first
    | (go_at_call 13; (with_reducible refine (CS.out _ _ hr).mono ?_); rintro e w1 ⟨v1, rfl, ho1, hb1⟩; have H := H0.pushRow hb1 ho1; clear H0 hr ho1 hb1)
    | (go_at_call 17; (with_reducible refine (CE.out _).mono ?_); rintro e w2 ⟨v2, rfl, -, hb2⟩; replace H := H.step hb2; clear hb2; have hst := strB (H.rr 0 rfl)))
  go_ret
  exact ⟨rfl, H.below⟩

set_option maxHeartbeats 3200000 in
set_option maxRecDepth 100000 in
theorem SqueezeTold_any (vb : Value) (b : List UInt8) (i : Int) (w : World) (hb : RB w vb b) :
    Calls Try.prog 3 #[vb, .int .i64 i] w fun e w' => e = .returned (.bool true) ∧ Below w.heap.size w w' := by
  obtain ⟨A, c, rfl, hc⟩ := hb.len
  by_cases h1 : 700 < b.length
  · have h1' : (700 : Int) < (b.length : Int) := by omega
    go_enter Try.func3, Try.ntmps3
    go_wp2_with (first | (go_at_call 12; refine (alive28_any _).mono ?_; rintro e w1 ⟨rfl, hb1⟩))
    go_ret
    exact ⟨rfl, hb1⟩
  have h1' : (b.length : Int) ≤ 700 := by omega
  have H := (SH.start Nil w).pushRow (alloc_belowAt w (.cells #[] 5)) (OB.lit w w.heap.size [] #[] rfl (Nat.le_refl _) (by simp))
  have cS := fun W v h => Squeeze_any v b W h (by omega)
  have rS := fun W v h => rSqueeze_any v b W h (by omega)
  have cM := fun W v h => Match_any v b i W h (by omega)
  have rM := fun W v h => rMatch_any v b i W h (by omega)
  generalize (sqE b : Int) = E at *
  generalize sqL b = Lq at *
  generalize ((matchI b i).1 : Int) = m1 at *
  generalize ((matchI b i).2 : Int) = m2 at *
  have CS := Lib.hid cS
  have RS := Lib.hid rS
  have CM := Lib.hid cM
  have RM := Lib.hid rM
  clear cS rS cM rM
  go_enter Try.func3, Try.ntmps3
  go_wp2_with (first
    | (at_builtin; refine wAppend sB H 0 rfl _ b (hb.below H.below) (by show (0 + _) * 1 ≤ _; omega) _ _ rfl rfl rfl rfl ?_; clear H; intro v5 w1 H; replace H : SH Nil w w1 [.row B8 v5 b] := H)
    | (go_at_call 13; (with_reducible refine (CS.out _ _ (H.rr 0 rfl)).mono ?_); rintro e w2 ⟨v6, rfl, ho, hb2⟩; replace H := H.pushRow hb2 ho; clear hb2 ho)
    | (go_at_call 14; (with_reducible refine (RS.out _ _ (hb.below H.below)).mono ?_); rintro e w3 ⟨v7, rfl, ho, hb3⟩; replace H := H.pushRow hb3 ho; clear hb3 ho)
    | (go_at_call 15; (with_reducible refine (CM.out _ _ (H.rr 2 rfl)).mono ?_); rintro e w4 ⟨rfl, hb4⟩; replace H := H.step hb4; clear hb4)
    | (go_at_call 16; (with_reducible refine (RM.out _ _ (hb.below H.below)).mono ?_); rintro e w5 ⟨rfl, hb5⟩; replace H := H.step hb5; clear hb5)
    | (go_at_call 12; refine (alive28_any _).mono ?_; rintro e w6 ⟨rfl, hb6⟩; replace H := H.step hb6; clear hb6; have s0 := strB (H.rr 0 rfl); have s1 := strB (H.rr 1 rfl); have s2 := strB (H.rr 2 rfl); have s3 := strB (hb.below H.below)))
  go_ret
  exact ⟨rfl, H.below⟩

set_option maxHeartbeats 3200000 in
set_option maxRecDepth 100000 in
theorem SqueezeExpand_any (vb : Value) (b : List UInt8) (w : World) (hb : RB w vb b) :
    Calls Try.prog 4 #[vb] w fun e w' => e = .returned (.bool true) ∧ Below w.heap.size w w' := by
  obtain ⟨A, c, rfl, hc⟩ := hb.len
  by_cases h1 : 700 < b.length
  · have h1' : (700 : Int) < (b.length : Int) := by omega
    go_enter Try.func4, Try.ntmps4
    go_wp2_with (first | (go_at_call 12; refine (alive28_any _).mono ?_; rintro e w1 ⟨rfl, hb1⟩))
    go_ret
    exact ⟨rfl, hb1⟩
  have h1' : (b.length : Int) ≤ 700 := by omega
  have H := (SH.start Nil w).pushRow (alloc_belowAt w (.cells #[] 5)) (OB.lit w w.heap.size [] #[] rfl (Nat.le_refl _) (by simp))
  have cS := fun W v h => Expand_any v b W h (by omega)
  have rS := fun W v h => rExpand_any v b W h (by omega)
  generalize ((exP b).1 : Int) = E at *
  generalize (exP b).2 = Lq at *
  have CS := Lib.hid cS
  have RS := Lib.hid rS
  clear cS rS
  go_enter Try.func4, Try.ntmps4
  go_wp2_with (first
    | (at_builtin; refine wAppend sB H 0 rfl _ b (hb.below H.below) (by show (0 + _) * 1 ≤ _; omega) _ _ rfl rfl rfl rfl ?_; clear H; intro v5 w1 H; replace H : SH Nil w w1 [.row B8 v5 b] := H)
    | (go_at_call 17; (with_reducible refine (CS.out _ _ (H.rr 0 rfl)).mono ?_); rintro e w2 ⟨v6, rfl, ho, hb2⟩; replace H := H.pushRow hb2 ho; clear hb2 ho)
    | (go_at_call 18; (with_reducible refine (RS.out _ _ (hb.below H.below)).mono ?_); rintro e w3 ⟨v7, rfl, ho, hb3⟩; replace H := H.pushRow hb3 ho; clear hb3 ho)
    | (go_at_call 12; refine (alive28_any _).mono ?_; rintro e w6 ⟨rfl, hb6⟩; replace H := H.step hb6; clear hb6; have s0 := strB (H.rr 0 rfl); have s1 := strB (H.rr 1 rfl); have s2 := strB (H.rr 2 rfl); have s3 := strB (hb.below H.below)))
  go_ret
  exact ⟨rfl, H.below⟩
end Go.Proofs.Ytfnneneaalaagaa
