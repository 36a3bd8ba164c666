/- The laws of layer 25: FieldTold. -/
import Derived.Test.YthogefehainmdaaRefF2
import Derived.Test.YthogefehainmdaaLaw25a
namespace Go.Proofs.Ythogefehainmdaa
open Go.RowKit

set_option maxHeartbeats 1600000 in
set_option maxRecDepth 100000 in
theorem FieldTold_any (a b : UInt8) (n : Nat) (hn : W64 n) (w : World) : Calls Try.prog 5 #[.int .u8 (a.toNat : Int), .int .u8 (b.toNat : Int), .int .u64 (n : Int)] w fun e w' => e = .returned (.bool true) ∧ Below w.heap.size w w' := by
  have c1 : ∀ w, Calls Try.prog 25 #[.int .u8 (a.toNat : Int)] w fun e w' => e = .returned (.tuple #[.int .u8 ((finv a).toNat : Int), .int .i64 (fdivE a)]) ∧ w' = w := fun w => by
    have h := FInverse_any a w
    by_cases e : a = 0
    · rw [if_pos e, if_pos e] at h
      rw [fdivE, if_pos e, e, finv_zero]
      rw [e] at h
      exact h
    · rw [if_neg e, if_neg e] at h
      rw [fdivE, if_neg e]
      exact h
  have c2 : ∀ w, Calls Try.prog 27 #[.int .u8 (a.toNat : Int), .int .u8 (b.toNat : Int)] w fun e w' => e = .returned (.tuple #[.int .u8 ((fdivV a b).toNat : Int), .int .i64 (fdivE b)]) ∧ w' = w := fun w => FDiv_any a b w
  have c3 : ∀ w, Calls Try.prog 16 #[.int .u8 (a.toNat : Int), .int .u8 (b.toNat : Int)] w fun e w' => e = .returned (.int .u8 ((fmul a b).toNat : Int)) ∧ w' = w := fun w => FMul_any a b w
  have c4 : ∀ w, Calls Try.prog 15 #[.int .u8 (a.toNat : Int), .int .u64 (n : Int)] w fun e w' => e = .returned (.int .u8 ((fpow a n).toNat : Int)) ∧ w' = w := fun w => FPow_any a n hn w
  have r1 := fun w => RInverse_any a w
  have r2 := fun w => RDiv_any a b w
  have r3 := fun w => RMul_f a b w
  have r4 := fun w => RPow_any a n hn w
  clear hn
  generalize finv a = u1 at c1 r1
  generalize fdivE a = u2 at c1 r1
  generalize fdivV a b = u3 at c2 r2
  generalize fdivE b = u4 at c2 r2
  generalize fmul a b = u5 at c3 r3
  generalize fpow a n = u6 at c4 r4
  go_enter Try.func5, Try.ntmps5
  go_wp2_with (first
    | (go_at_call 17; (with_reducible refine (alive25_any _).mono ?_); rintro e w3 ⟨rfl, rfl⟩)
    | (go_at_call 25; (with_reducible refine (c1 _).mono ?_); rintro e w1 ⟨rfl, rfl⟩)
    | (go_at_call 27; (with_reducible refine (c2 _).mono ?_); rintro e w1 ⟨rfl, rfl⟩)
    | (go_at_call 16; (with_reducible refine (c3 _).mono ?_); rintro e w1 ⟨rfl, rfl⟩)
    | (go_at_call 15; (with_reducible refine (c4 _).mono ?_); rintro e w1 ⟨rfl, rfl⟩)
    | (go_at_call 26; (with_reducible refine (r1 _).mono ?_); rintro e w1 ⟨rfl, hb1⟩)
    | (go_at_call 28; (with_reducible refine (r2 _).mono ?_); rintro e w2 ⟨rfl, hb2⟩; replace hb1 := below_two hb1 hb1.size hb2)
    | (go_at_call 29; (with_reducible refine (r3 _).mono ?_); rintro e w2 ⟨rfl, hb2⟩; replace hb1 := below_two hb1 hb1.size hb2)
    | (go_at_call 30; (with_reducible refine (r4 _).mono ?_); rintro e w2 ⟨rfl, hb2⟩; replace hb1 := below_two hb1 hb1.size hb2))
  go_ret
  exact ⟨rfl, hb1⟩
end Go.Proofs.Ythogefehainmdaa
