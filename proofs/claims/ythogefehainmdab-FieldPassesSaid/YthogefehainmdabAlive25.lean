/- Layer 25: the live question. -/
import Derived.Test.YthogefehainmdabField
namespace Go.Proofs.Ythogefehainmdab
open Go.RowKit

theorem n8 (n : Nat) (h : n < 256) : (((UInt8.ofNat n).toNat : Nat) : Int) = (n : Int) := by rw [UInt8.toNat_ofNat', Nat.mod_eq_of_lt h]
set_option maxHeartbeats 1600000 in
set_option maxRecDepth 100000 in
theorem alive25_any (w : World) : Calls Try.prog 7 #[] w fun e w' => e = .returned (.bool true) ∧ w' = w := by
  have c1 : ∀ w, Calls Try.prog 18 #[.int .u8 2] w fun e w' => e = .returned (.tuple #[.int .u8 142, .int .i64 0]) ∧ w' = w := fun w => by
    have h := FInverse_any 2 w
    have e : finv 2 = 142 := by decide +kernel
    rw [e] at h
    exact h
  have c2 : ∀ w, Calls Try.prog 18 #[.int .u8 0] w fun e w' => e = .returned (.tuple #[.int .u8 0, .int .i64 1]) ∧ w' = w := fun w => FInverse_any 0 w
  have c3 : ∀ w, Calls Try.prog 19 #[.int .u8 128, .int .u8 2] w fun e w' => e = .returned (.int .u8 29) ∧ w' = w := fun w => by
    have h := FMul_any 128 2 w
    have e : fmul 128 2 = 29 := by decide +kernel
    rw [e] at h
    exact h
  go_enter Try.func7, Try.ntmps7
  go_wp2_with (first
    | (go_at_call 18; (with_reducible refine (c1 _).mono ?_); rintro e w1 ⟨rfl, rfl⟩)
    | (go_at_call 18; (with_reducible refine (c2 _).mono ?_); rintro e w1 ⟨rfl, rfl⟩)
    | (go_at_call 19; (with_reducible refine (c3 _).mono ?_); rintro e w1 ⟨rfl, rfl⟩))
  go_ret
  exact ⟨rfl, rfl⟩

end Go.Proofs.Ythogefehainmdab
