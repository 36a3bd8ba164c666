/- The package field: polynomials, sums of products, places. -/
import Derived.Test.YtfnneneaalaagaaField
import Derived.Test.YtfnneneaalaagaaFieldPoly
import Derived.StillTailTactics
namespace Go.Proofs.Ytfnneneaalaagaa
open Go.RowKit

theorem dotL_drop (xs ys : List UInt8) (k : Nat) (h : k < xs.length) (h2 : k < ys.length) : dotL (xs.drop k) (ys.drop k) = fmul xs[k] ys[k] ^^^ dotL (xs.drop (k + 1)) (ys.drop (k + 1)) := by
  rw [List.drop_eq_getElem_cons h, List.drop_eq_getElem_cons h2, dotL]
def dotV (xs ys : List UInt8) : UInt8 := if xs.length = ys.length then dotL xs ys else 0
def dotE (xs ys : List UInt8) : Int := if xs.length = ys.length then 0 else 1

set_option maxHeartbeats 800000 in
set_option maxRecDepth 100000 in
theorem FDot_any (va vb : Value) (xs ys : List UInt8) (w : World) (ha : RB w va xs) (hb : RB w vb ys) (hl : xs.length ≤ 1000000000) :
    Calls Try.prog 65 #[va, vb] w fun e w' => e = .returned (.tuple #[.int .u8 ((dotV xs ys).toNat : Int), .int .i64 (dotE xs ys)]) ∧ Below w.heap.size w w' := by
  obtain ⟨A, c, rfl, hc⟩ := ha.len
  obtain ⟨A2, c2, rfl, hc2⟩ := hb.len
  unfold dotV dotE
  by_cases hll : xs.length = ys.length
  · rw [if_pos hll, if_pos hll]
    have hli : (xs.length : Int) = (ys.length : Int) := by omega
    have HLL := Lib.hid hll
    clear hll
    go_enter Try.func65, Try.ntmps65
    go_wp2
    go_loopw [6, 16] (fun v6 v16 wr => ∃ (k : Nat) (o : UInt8), v16 = .int .i64 (k : Int) ∧ k ≤ xs.length ∧ v6 = .int .u8 (o.toNat : Int) ∧ o ^^^ dotL (xs.drop k) (ys.drop k) = dotL xs ys ∧ wr = w) (fun _ i _ => xs.length - (intOf i).toNat)
    case atStart => exact ⟨0, 0, rfl, by omega, rfl, by rw [UInt8.zero_xor]; rfl, rfl⟩
    case round =>
      obtain ⟨k, o, rfl, hk, rfl, ho, rfl⟩ := hrel
      have HO := Lib.hid ho
      clear ho
      by_cases h0 : k < xs.length
      · have hk2 : k < ys.length := by have := HLL.out; omega
        have hki : (k : Int) < (ys.length : Int) := by omega
        have hd := dotL_drop xs ys k h0 hk2
        obtain ⟨ad, rfl, hcc⟩ := ha.at_ k h0
        have hcx := hcc 0 (cb xs[k]) (by simp [U8])
        obtain ⟨ad2, rfl, hcc2⟩ := hb.at_ k hk2
        have hcy := hcc2 0 (cb ys[k]) (by simp [U8])
        simp only [show B8.sz = 1 from rfl, Nat.mul_one, Nat.add_zero] at hcx hcy
        generalize xs[k] = xk at hcx hd
        generalize ys[k] = yk at hcy hd
        have hx := xor8 o (fmul xk yk)
        obtain ⟨r, hr⟩ : ∃ r, r = o ^^^ fmul xk yk := ⟨_, rfl⟩
        rw [← hr] at hx
        have HR := Lib.hid hr
        have HD := Lib.hid hd
        clear hr hd hcc hcc2
        go_wp2_with (first | (go_at_call 81; (with_reducible refine (FMul_any _ _ _).mono ?_); rintro e w1 ⟨rfl, rfl⟩))
        go_roundw
        case rel => exact ⟨k + 1, r, by go_num, by omega, by go_num, by rw [← HO.out, HD.out, HR.out, UInt8.xor_assoc], (by first | trivial | rfl)⟩
        case measure => simp [intOf] <;> omega
      · obtain rfl : k = xs.length := by omega
        have hki : (ys.length : Int) ≤ (ys.length : Int) := by omega
        go_wp2
        go_ret2
        have := HO.out
        rw [List.drop_of_length_le (Nat.le_refl _), dotL, UInt8.xor_zero] at this
        · rw [← this]; exact ⟨rfl, Below.refl _ _⟩
        · intros; simp_all
  · rw [if_neg hll, if_neg hll]
    have hli : (xs.length : Int) ≠ (ys.length : Int) := by omega
    go_enter Try.func65, Try.ntmps65
    go_wp2
    go_ret2
    exact ⟨rfl, Below.refl _ _⟩
end Go.Proofs.Ytfnneneaalaagaa
