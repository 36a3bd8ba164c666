/- The package num: a short number, taken. -/
import Derived.Test.YtfnneneaalaagaaNum2
namespace Go.Proofs.Ytfnneneaalaagaa
open Go.RowKit

set_option maxHeartbeats 800000 in
set_option maxRecDepth 100000 in
theorem Take_any (v : Value) (xs : List UInt8) (w : World) (hv : RB w v xs) (hl : xs.length ≤ 1000000000) :
    Calls Try.prog 44 #[v] w fun e w' => ∃ v', e = .returned (.tuple #[.int .u64 (tkN xs : Int), v', .int .i64 (tkE xs : Int)]) ∧ OB w' w.heap.size v' (tkR xs) ∧ Below w.heap.size w w' := by
  obtain ⟨A, c, rfl, hc, _, hcell⟩ := id hv
  obtain ⟨m, hm⟩ : ∃ m, m = min xs.length 10 := ⟨_, rfl⟩
  have hmin : (if (10 : Int) < (xs.length : Int) then (10 : Int) else (xs.length : Int)) = (m : Int) := by split <;> omega
  have hml : m ≤ xs.length := by omega
  have hm10 : m ≤ 10 := by omega
  have HM := Lib.hid hm
  clear hm
  obtain ⟨A1, hcut1, hcut2, hcut3, hr1⟩ := cutB A c xs 0 m (by omega) hml hc
  have hk1 := fun W => hcut3 .i64 W rfl
  have hq1 := hr1 w hv
  simp only [Nat.sub_zero, List.drop_zero] at hq1
  clear hcut1 hcut2 hcut3 hr1
  go_enter Try.func44, Try.ntmps44
  go_wp2
  go_loopw [5, 14] (fun v5 v14 wr => ∃ (acc k : Nat) (x : Int), v5 = .int .u64 x ∧ v14 = .int .i64 (k : Int) ∧ k ≤ m ∧ (k ≤ 9 → x = acc) ∧ acc < 128 ^ k ∧ wr = w ∧ tkGo (10 - k) k acc (xs.drop k) = tk xs) (fun _ i _ => m - (intOf i).toNat)
  case atStart => exact ⟨0, 0, 0, rfl, rfl, Nat.zero_le _, fun _ => rfl, by simp, rfl, rfl⟩
  case round =>
    obtain ⟨acc, k, x, rfl, rfl, hk, hx, ha, rfl, ht⟩ := hrel
    by_cases hkm : k < m
    · obtain rfl := hx (by omega)
      clear hx
      obtain ⟨ad, rfl, hcc⟩ := hq1.at_ k (by simp; omega)
      have hxk : k < xs.length := by omega
      have hcx := hcc 0 (cb xs[k]) (by simp [U8])
      simp only [show B8.sz = 1 from rfl, Nat.mul_one, Nat.add_zero] at hcx
      rw [List.drop_eq_getElem_cons hxk, show 10 - k = (10 - (k + 1)) + 1 by omega, tkGo] at ht
      generalize hck : xs[k] = ck at hcx ht
      clear hck hcc
      have hand := and128 ck
      have hnot := andNot128 ck
      have hkm' : (k : Int) < (m : Int) := by omega
      by_cases h128 : ck.toNat < 128
      · rw [if_pos h128] at hand ht
        obtain ⟨A2, hcut4, hcut5, hcut6, hr2⟩ := cutB A c xs (k + 1) xs.length (by omega) (Nat.le_refl _) hc
        have hk2 := fun W => hcut5 .i64 W rfl
        have hq2 := hr2 _ hv
        rw [List.take_of_length_le (Nat.le_refl _)] at hq2
        clear hcut4 hcut5 hcut6 hr2
        simp only [Int.natCast_add, Int.natCast_one] at hk2
        by_cases hsh : shortB k ck = true
        · rw [if_pos hsh] at ht
          have HSH := Lib.hid hsh
          have HT := Lib.hid ht
          clear ht
          go_wp2_with (first
            | (go_at_call 69; refine (isShort_any k ck _).mono ?_; rintro e w1 ⟨rfl, rfl⟩)
            | (go_at_call 46; refine (Clone_any _ (xs.drop (k + 1)) _ hq2 (by simp; omega)).mono ?_; rintro e w2 ⟨v2, rfl, ho2, hb2⟩))
          go_ret3
          have hE : tkE xs = 0 := by unfold tkE; rw [← HT.out]
          have hN : tkN xs = acc + ck.toNat * 128 ^ k := by unfold tkN; rw [← HT.out]
          have hR : tkR xs = xs.drop (k + 1) := by unfold tkR; rw [if_pos hE, ← HT.out]
          have hs2 := HSH.out
          unfold shortB at hs2
          simp only [Bool.or_eq_true, beq_iff_eq, Bool.and_eq_true, bne_iff_ne, decide_eq_true_eq] at hs2
          have h9 : k ≤ 8 ∨ (k = 9 ∧ ck.toNat % 128 ≤ 1) := by
            rcases hs2 with h | ⟨_, h | h⟩
            · omega
            · omega
            · subst h; have : (1 : UInt8).toNat = 1 := rfl; omega
          have hv64 := or64 acc k ck.toNat h9 ha
          rw [Nat.mod_eq_of_lt h128] at hv64
          refine ⟨v2, ?_, by rw [hR]; exact ho2, hb2⟩
          rw [hE, hN, ← hv64]
          rfl
        · rw [if_neg hsh] at ht
          have hsh' : shortB k ck = false := by simpa using hsh
          clear hsh
          have HT := Lib.hid ht
          clear ht
          go_wp2_with (first
            | (go_at_call 69; refine (isShort_any k ck _).mono ?_; rintro e w1 ⟨rfl, rfl⟩))
          go_ret3
          have hE : tkE xs = 3 := by unfold tkE; rw [← HT.out]
          have hN : tkN xs = 0 := by unfold tkN; rw [← HT.out]
          have hR : tkR xs = [] := by unfold tkR; rw [if_neg (by omega)]
          rw [hE, hN, hR]
          exact ⟨_, rfl, OR.nil _ _, Below.refl _ _⟩
      · rw [if_neg h128] at hand ht
        have HT := Lib.hid ht
        clear ht
        go_wp2
        go_roundw
        case rel =>
          have hlt := ck.toNat_lt
          refine ⟨acc + ck.toNat % 128 * 128 ^ k, k + 1, _, rfl, by go_num, by omega, fun h9 => ?_, ?_, (by first | trivial | rfl), HT.out⟩
          · exact or64 acc k ck.toNat (by omega) ha
          · rw [Nat.pow_succ]
            have h2 : ck.toNat % 128 * 128 ^ k ≤ 127 * 128 ^ k := Nat.mul_le_mul_right _ (by omega)
            omega
        case measure => simp [intOf]; omega
    · have hkm' : (m : Int) ≤ (k : Int) := by omega
      obtain rfl : k = m := by omega
      clear hx hkm ha
      have hM := HM.out
      by_cases h10 : 10 ≤ xs.length
      · obtain rfl : k = 10 := by omega
        have h10' : (10 : Int) ≤ (xs.length : Int) := by omega
        clear hM
        have HT := Lib.hid ht
        clear ht
        go_wp2
        go_ret3
        have hE : tkE xs = 3 := by unfold tkE; rw [← HT.out]; rfl
        have hN : tkN xs = 0 := by unfold tkN; rw [← HT.out]; rfl
        have hR : tkR xs = [] := by unfold tkR; rw [if_neg (by omega)]
        rw [hE, hN, hR]
        exact ⟨_, rfl, OR.nil _ _, Below.refl _ _⟩
      · have h10' : (xs.length : Int) < 10 := by omega
        rw [List.drop_of_length_le (by omega), show 10 - k = (9 - k) + 1 by omega, tkGo] at ht
        have HT := Lib.hid ht
        clear ht hM
        go_wp2
        go_ret3
        have hE : tkE xs = 2 := by unfold tkE; rw [← HT.out]
        have hN : tkN xs = 0 := by unfold tkN; rw [← HT.out]
        have hR : tkR xs = [] := by unfold tkR; rw [if_neg (by omega)]
        rw [hE, hN, hR]
        exact ⟨_, rfl, OR.nil _ _, Below.refl _ _⟩

end Go.Proofs.Ytfnneneaalaagaa
