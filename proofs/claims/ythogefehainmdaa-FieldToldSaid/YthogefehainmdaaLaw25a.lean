/- The laws of layer 25, of the program alone. -/
import Derived.Test.YthogefehainmdaaField
namespace Go.Proofs.Ythogefehainmdaa
open Go.RowKit

theorem n8 (n : Nat) (h : n < 256) : (((UInt8.ofNat n).toNat : Nat) : Int) = (n : Int) := by rw [UInt8.toNat_ofNat', Nat.mod_eq_of_lt h]
set_option maxHeartbeats 1600000 in
set_option maxRecDepth 100000 in
theorem alive25_any (w : World) : Calls Try.prog 17 #[] w fun e w' => e = .returned (.bool true) ∧ w' = w := by
  have c1 : ∀ w, Calls Try.prog 25 #[.int .u8 2] w fun e w' => e = .returned (.tuple #[.int .u8 142, .int .i64 0]) ∧ w' = w := fun w => by
    have h := FInverse_any 2 w
    have e : finv 2 = 142 := by decide +kernel
    rw [e] at h
    exact h
  have c2 : ∀ w, Calls Try.prog 25 #[.int .u8 0] w fun e w' => e = .returned (.tuple #[.int .u8 0, .int .i64 1]) ∧ w' = w := fun w => FInverse_any 0 w
  have c3 : ∀ w, Calls Try.prog 16 #[.int .u8 128, .int .u8 2] w fun e w' => e = .returned (.int .u8 29) ∧ w' = w := fun w => by
    have h := FMul_any 128 2 w
    have e : fmul 128 2 = 29 := by decide +kernel
    rw [e] at h
    exact h
  go_enter Try.func17, Try.ntmps17
  go_wp2_with (first
    | (go_at_call 25; (with_reducible refine (c1 _).mono ?_); rintro e w1 ⟨rfl, rfl⟩)
    | (go_at_call 25; (with_reducible refine (c2 _).mono ?_); rintro e w1 ⟨rfl, rfl⟩)
    | (go_at_call 16; (with_reducible refine (c3 _).mono ?_); rintro e w1 ⟨rfl, rfl⟩))
  go_ret
  exact ⟨rfl, rfl⟩

set_option maxHeartbeats 1600000 in
set_option maxRecDepth 100000 in
theorem FieldPowers_any (a : UInt8) (m n : Nat) (hm : m < 4294967296) (hn : n < 4294967296) (w : World) : Calls Try.prog 3 #[.int .u8 (a.toNat : Int), .int .u32 (m : Int), .int .u32 (n : Int)] w fun e w' => e = .returned (.bool true) ∧ w' = w := by
  have e1 : (m : Int) % 18446744073709551616 = (m : Int) := by omega
  have e2 : (n : Int) % 18446744073709551616 = (n : Int) := by omega
  have c1 : ∀ w, Calls Try.prog 15 #[.int .u8 (a.toNat : Int), .int .u64 ((m : Int) + (n : Int))] w fun e w' => e = .returned (.int .u8 ((fpow a (m + n)).toNat : Int)) ∧ w' = w := fun w => FPow_any a (m + n) (by unfold W64; omega) w
  have c2 := fun w => FPow_any a m (by unfold W64; omega) w
  have c3 := fun w => FPow_any a n (by unfold W64; omega) w
  have c4 : ∀ w, Calls Try.prog 16 #[.int .u8 ((fpow a m).toNat : Int), .int .u8 ((fpow a n).toNat : Int)] w fun e w' => e = .returned (.int .u8 ((fpow a (m + n)).toNat : Int)) ∧ w' = w := fun w => by
    have h := FMul_any (fpow a m) (fpow a n) w
    rw [← fpow_add] at h
    exact h
  have c6 : ∀ w, Calls Try.prog 15 #[.int .u8 (a.toNat : Int), .int .u64 1] w fun e w' => e = .returned (.int .u8 (a.toNat : Int)) ∧ w' = w := fun w => by
    have h := FPow_any a 1 (by unfold W64; omega) w
    rw [fpow_one] at h
    exact h
  have c7 : ∀ w, Calls Try.prog 15 #[.int .u8 (a.toNat : Int), .int .u64 0] w fun e w' => e = .returned (.int .u8 1) ∧ w' = w := fun w => FPow_any a 0 (by unfold W64; omega) w
  generalize fpow a (m + n) = p at c1 c4
  by_cases h0 : a.toNat = 0
  · have h0b : ((a.toNat : Int) == 0) = true := by simpa using h0
    clear h0
    go_enter Try.func3, Try.ntmps3
    go_wp2_with (first
      | (go_at_call 17; (with_reducible refine (alive25_any _).mono ?_); rintro e w1 ⟨rfl, rfl⟩)
      | (go_at_call 15; (with_reducible refine (c1 _).mono ?_); rintro e w1 ⟨rfl, rfl⟩)
      | (go_at_call 15; (with_reducible refine (c2 _).mono ?_); rintro e w1 ⟨rfl, rfl⟩)
      | (go_at_call 15; (with_reducible refine (c3 _).mono ?_); rintro e w1 ⟨rfl, rfl⟩)
      | (go_at_call 15; (with_reducible refine (c6 _).mono ?_); rintro e w1 ⟨rfl, rfl⟩)
      | (go_at_call 15; (with_reducible refine (c7 _).mono ?_); rintro e w1 ⟨rfl, rfl⟩)
      | (go_at_call 16; (with_reducible refine (c4 _).mono ?_); rintro e w1 ⟨rfl, rfl⟩))
    go_ret
    exact ⟨rfl, rfl⟩
  · have h0b : ((a.toNat : Int) == 0) = false := by simpa using h0
    have c5 : ∀ w, Calls Try.prog 15 #[.int .u8 (a.toNat : Int), .int .u64 255] w fun e w' => e = .returned (.int .u8 1) ∧ w' = w := fun w => by
      have h := FPow_any a 255 (by unfold W64; omega) w
      rw [fpow_255 a (fun e => h0 (by rw [e]; rfl))] at h
      exact h
    clear h0
    go_enter Try.func3, Try.ntmps3
    go_wp2_with (first
      | (go_at_call 17; (with_reducible refine (alive25_any _).mono ?_); rintro e w1 ⟨rfl, rfl⟩)
      | (go_at_call 15; (with_reducible refine (c1 _).mono ?_); rintro e w1 ⟨rfl, rfl⟩)
      | (go_at_call 15; (with_reducible refine (c2 _).mono ?_); rintro e w1 ⟨rfl, rfl⟩)
      | (go_at_call 15; (with_reducible refine (c3 _).mono ?_); rintro e w1 ⟨rfl, rfl⟩)
      | (go_at_call 15; (with_reducible refine (c5 _).mono ?_); rintro e w1 ⟨rfl, rfl⟩)
      | (go_at_call 15; (with_reducible refine (c6 _).mono ?_); rintro e w1 ⟨rfl, rfl⟩)
      | (go_at_call 15; (with_reducible refine (c7 _).mono ?_); rintro e w1 ⟨rfl, rfl⟩)
      | (go_at_call 16; (with_reducible refine (c4 _).mono ?_); rintro e w1 ⟨rfl, rfl⟩))
    go_ret
    exact ⟨rfl, rfl⟩

set_option maxHeartbeats 3200000 in
set_option maxRecDepth 100000 in
theorem FieldLaws_any (a b c : UInt8) (w : World) : Calls Try.prog 6 #[.int .u8 (a.toNat : Int), .int .u8 (b.toNat : Int), .int .u8 (c.toNat : Int)] w fun e w' => e = .returned (.bool true) ∧ w' = w := by
  obtain ⟨p, hp⟩ : ∃ p, p = fmul a b := ⟨_, rfl⟩
  obtain ⟨q, hq⟩ : ∃ q, q = fmul b c := ⟨_, rfl⟩
  obtain ⟨r, hr⟩ : ∃ r, r = fmul p c := ⟨_, rfl⟩
  obtain ⟨s, hs⟩ : ∃ s, s = fmul a c := ⟨_, rfl⟩
  obtain ⟨bc, hbc⟩ : ∃ s, s = b ^^^ c := ⟨_, rfl⟩
  obtain ⟨ps, hps⟩ : ∃ t, t = p ^^^ s := ⟨_, rfl⟩
  obtain ⟨dv, hdv⟩ : ∃ t, t = fdivV a b := ⟨_, rfl⟩
  have x1 := xor8 b c
  have x2 := xor8 p s
  rw [← hbc] at x1
  rw [← hps] at x2
  have c1 := fun w => FMul_any a b w
  have c2 := fun w => FMul_any b a w
  have c3 := fun w => FMul_any b c w
  have c4 := fun w => FMul_any a q w
  have c5 := fun w => FMul_any p c w
  have c6 := fun w => FMul_any a bc w
  have c7 := fun w => FMul_any a c w
  have c8 : ∀ w, Calls Try.prog 16 #[.int .u8 1, .int .u8 (a.toNat : Int)] w fun e w' => e = .returned (.int .u8 (a.toNat : Int)) ∧ w' = w := fun w => by
    have h := FMul_any 1 a w
    rw [one_fmul] at h
    exact h
  have d1 := fun w => FDiv_any a b w
  have r2 : fmul b a = p := by rw [hp, fmul_comm]
  have r4 : fmul a q = r := by rw [hq, hr, hp, fmul_assoc]
  have r6 : fmul a bc = ps := by rw [hbc, hps, hp, hs, fmul_xor]
  rw [← hdv] at d1
  rw [← hp] at c1
  rw [r2] at c2
  rw [← hq] at c3
  rw [r4] at c4
  rw [← hr] at c5
  rw [r6] at c6
  rw [← hs] at c7
  by_cases hb : b = 0
  · have hp0 : p = 0 := by rw [hp, hb, fmul_zero]
    obtain ⟨b1, b2⟩ := u8_eq0 hb
    obtain ⟨p1, p2⟩ := u8_eq0 hp0
    unfold fdivE at d1
    rw [if_pos hb] at d1
    clear hp hq hr hs hbc hps hdv r2 r4 r6 hb hp0 p2
    go_enter Try.func6, Try.ntmps6
    go_wp2_with (first
      | (go_at_call 17; (with_reducible refine (alive25_any _).mono ?_); rintro e w1 ⟨rfl, rfl⟩)
      | (go_at_call 27; (with_reducible refine (d1 _).mono ?_); rintro e w1 ⟨rfl, rfl⟩)
      | (go_at_call 16; (with_reducible refine (c1 _).mono ?_); rintro e w1 ⟨rfl, rfl⟩)
      | (go_at_call 16; (with_reducible refine (c2 _).mono ?_); rintro e w1 ⟨rfl, rfl⟩)
      | (go_at_call 16; (with_reducible refine (c3 _).mono ?_); rintro e w1 ⟨rfl, rfl⟩)
      | (go_at_call 16; (with_reducible refine (c4 _).mono ?_); rintro e w1 ⟨rfl, rfl⟩)
      | (go_at_call 16; (with_reducible refine (c5 _).mono ?_); rintro e w1 ⟨rfl, rfl⟩)
      | (go_at_call 16; (with_reducible refine (c6 _).mono ?_); rintro e w1 ⟨rfl, rfl⟩)
      | (go_at_call 16; (with_reducible refine (c7 _).mono ?_); rintro e w1 ⟨rfl, rfl⟩)
      | (go_at_call 16; (with_reducible refine (c8 _).mono ?_); rintro e w1 ⟨rfl, rfl⟩))
    all_goals (go_ret; exact ⟨rfl, rfl⟩)
  · have c9 := fun w => FMul_any dv b w
    have r9 : fmul dv b = a := by rw [hdv, fdivV, if_neg hb, fmul_assoc, finv_fmul b hb, fmul_one]
    rw [r9] at c9
    obtain ⟨b1, b2⟩ := u8_ne0 hb
    unfold fdivE at d1
    rw [if_neg hb] at d1
    by_cases ha : a = 0
    · have hp0 : p = 0 := by rw [hp, ha, zero_fmul]
      obtain ⟨p1, p2⟩ := u8_eq0 hp0
      obtain ⟨a1, a2⟩ := u8_eq0 ha
      clear hp hq hr hs hbc hps hdv r2 r4 r6 r9 hb hp0 p2 ha a2
      go_enter Try.func6, Try.ntmps6
      go_wp2_with (first
        | (go_at_call 17; (with_reducible refine (alive25_any _).mono ?_); rintro e w1 ⟨rfl, rfl⟩)
        | (go_at_call 27; (with_reducible refine (d1 _).mono ?_); rintro e w1 ⟨rfl, rfl⟩)
        | (go_at_call 16; (with_reducible refine (c1 _).mono ?_); rintro e w1 ⟨rfl, rfl⟩)
        | (go_at_call 16; (with_reducible refine (c2 _).mono ?_); rintro e w1 ⟨rfl, rfl⟩)
        | (go_at_call 16; (with_reducible refine (c3 _).mono ?_); rintro e w1 ⟨rfl, rfl⟩)
        | (go_at_call 16; (with_reducible refine (c4 _).mono ?_); rintro e w1 ⟨rfl, rfl⟩)
        | (go_at_call 16; (with_reducible refine (c5 _).mono ?_); rintro e w1 ⟨rfl, rfl⟩)
        | (go_at_call 16; (with_reducible refine (c6 _).mono ?_); rintro e w1 ⟨rfl, rfl⟩)
        | (go_at_call 16; (with_reducible refine (c7 _).mono ?_); rintro e w1 ⟨rfl, rfl⟩)
        | (go_at_call 16; (with_reducible refine (c8 _).mono ?_); rintro e w1 ⟨rfl, rfl⟩)
        | (go_at_call 16; (with_reducible refine (c9 _).mono ?_); rintro e w1 ⟨rfl, rfl⟩))
      go_ret
      exact ⟨rfl, rfl⟩
    · have hp0 : p ≠ 0 := fun e => by rcases (fmul_eq_zero a b).mp (hp.symm.trans e) with h | h; exact ha h; exact hb h
      obtain ⟨p1, p2⟩ := u8_ne0 hp0
      obtain ⟨a1, a2⟩ := u8_ne0 ha
      clear hp hq hr hs hbc hps hdv r2 r4 r6 r9 hb hp0 p2 ha a2
      go_enter Try.func6, Try.ntmps6
      go_wp2_with (first
        | (go_at_call 17; (with_reducible refine (alive25_any _).mono ?_); rintro e w1 ⟨rfl, rfl⟩)
        | (go_at_call 27; (with_reducible refine (d1 _).mono ?_); rintro e w1 ⟨rfl, rfl⟩)
        | (go_at_call 16; (with_reducible refine (c1 _).mono ?_); rintro e w1 ⟨rfl, rfl⟩)
        | (go_at_call 16; (with_reducible refine (c2 _).mono ?_); rintro e w1 ⟨rfl, rfl⟩)
        | (go_at_call 16; (with_reducible refine (c3 _).mono ?_); rintro e w1 ⟨rfl, rfl⟩)
        | (go_at_call 16; (with_reducible refine (c4 _).mono ?_); rintro e w1 ⟨rfl, rfl⟩)
        | (go_at_call 16; (with_reducible refine (c5 _).mono ?_); rintro e w1 ⟨rfl, rfl⟩)
        | (go_at_call 16; (with_reducible refine (c6 _).mono ?_); rintro e w1 ⟨rfl, rfl⟩)
        | (go_at_call 16; (with_reducible refine (c7 _).mono ?_); rintro e w1 ⟨rfl, rfl⟩)
        | (go_at_call 16; (with_reducible refine (c8 _).mono ?_); rintro e w1 ⟨rfl, rfl⟩)
        | (go_at_call 16; (with_reducible refine (c9 _).mono ?_); rintro e w1 ⟨rfl, rfl⟩))
      go_ret
      exact ⟨rfl, rfl⟩

end Go.Proofs.Ythogefehainmdaa
