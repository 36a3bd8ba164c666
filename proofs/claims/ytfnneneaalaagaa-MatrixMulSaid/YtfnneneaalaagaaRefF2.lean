/- The reference of layer 25: inverse, quotient, power. -/
import Derived.Test.YtfnneneaalaagaaRefF
import Derived.Test.YtfnneneaalaagaaField
namespace Go.Proofs.Ytfnneneaalaagaa
open Go.RowKit

theorem RMul_f (a b : UInt8) (w : World) : Calls Try.prog 67 #[.int .u8 (a.toNat : Int), .int .u8 (b.toNat : Int)] w fun e w' => e = .returned (.int .u8 ((fmul a b).toNat : Int)) ∧ Below w.heap.size w w' := by
  rw [← rmul_eq]
  exact RMul_any a b w

theorem finv_zero : finv 0 = 0 := zero_fpow 254 (by decide)
theorem u8_val0 {a : UInt8} (h : a.toNat = 0) : a = 0 := UInt8.toNat_inj.mp (by simpa using h)
theorem u8_lt1 {a : UInt8} (h : a ≠ 0) : 1 ≤ a.toNat := by
  rcases Nat.eq_zero_or_pos a.toNat with e | e
  · exact absurd (u8_val0 e) h
  · exact e
theorem u8_eq1 (m : UInt8) : ((m.toNat : Int) == 1) = decide (m = 1) := by
  by_cases h : m = 1
  · subst h; rfl
  · have : ¬ (m.toNat : Int) = 1 := fun e => h (UInt8.toNat_inj.mp (by show m.toNat = 1; omega))
    simp [h, this]

set_option maxHeartbeats 800000 in
set_option maxRecDepth 100000 in
theorem RInverse_any (a : UInt8) (w : World) : Calls Try.prog 57 #[.int .u8 (a.toNat : Int)] w fun e w' => e = .returned (.tuple #[.int .u8 ((finv a).toNat : Int), .int .i64 (fdivE a)]) ∧ Below w.heap.size w w' := by
  go_enter Try.func57, Try.ntmps57
  go_wp2
  go_loopw [4] (fun v4 wr => ∃ (k : Nat), v4 = .int .i64 (k : Int) ∧ 1 ≤ k ∧ k ≤ 256 ∧ (∀ c, 1 ≤ c → c < k → fmul a (UInt8.ofNat c) ≠ 1) ∧ Below w.heap.size w wr) (fun i _ => 256 - (intOf i).toNat)
  case atStart => exact ⟨1, rfl, by omega, by omega, fun c h1 h2 => by omega, Below.refl _ _⟩
  case round =>
    obtain ⟨k, rfl, hk1, hk, hno, hb⟩ := hrel
    have HNO := Lib.hid hno
    clear hno
    by_cases h : k < 256
    · have h' : (k : Int) < 256 := by omega
      obtain ⟨q, hq⟩ : ∃ q, q = UInt8.ofNat k := ⟨_, rfl⟩
      have hqk : ((q.toNat : Nat) : Int) = (k : Int) := by rw [hq]; exact (low8' k h).symm
      have c := fun W => RMul_f a q W
      rw [hqk] at c
      obtain ⟨m, hm⟩ : ∃ m, m = fmul a q := ⟨_, rfl⟩
      rw [← hm] at c
      have HM := Lib.hid hm
      have HQ := Lib.hid hq
      have HQK := Lib.hid hqk
      clear hm hq hqk
      have h1 := u8_eq1 m
      by_cases hm1 : m = 1
      · rw [decide_eq_true hm1] at h1
        have HM1 := Lib.hid hm1
        clear hm1
        go_wp2_with (first | (go_at_call 67; (with_reducible refine (c _).mono ?_); rintro e w1 ⟨rfl, hb1⟩))
        go_ret2
        have he : fmul a q = 1 := by rw [← HM.out]; exact HM1.out
        have hi : q = finv a := finv_unique a q he
        have ha : a ≠ 0 := fun e => by rw [e, zero_fmul] at he; exact absurd he (by decide)
        rw [fdivE, if_neg ha, ← hi, HQK.out]
        exact ⟨rfl, below_two hb hb.size hb1⟩
      · rw [decide_eq_false hm1] at h1
        have HM1 := Lib.hid hm1
        clear hm1
        go_wp2_with (first | (go_at_call 67; (with_reducible refine (c _).mono ?_); rintro e w1 ⟨rfl, hb1⟩))
        go_roundw
        case rel =>
          refine ⟨k + 1, by go_num, by omega, by omega, fun c h1 h2 => ?_, below_two hb hb.size hb1⟩
          by_cases hc : c = k
          · rw [hc, ← HQ.out, ← HM.out]; exact HM1.out
          · exact HNO.out c h1 (by omega)
        case measure => simp [intOf]; omega
    · have h' : (256 : Int) ≤ (k : Int) := by omega
      go_wp2
      go_ret2
      have ha : a = 0 := Classical.byContradiction fun ha => by
        refine HNO.out (finv a).toNat (u8_lt1 (finv_ne a ha)) (by have := (finv a).toNat_lt; omega) ?_
        rw [UInt8.ofNat_toNat, fmul_finv a ha]
      rw [fdivE, if_pos ha, ha, finv_zero]
      exact ⟨rfl, hb⟩

end Go.Proofs.Ytfnneneaalaagaa
