/- Layer 28: the laws on there and back, and on runs. -/
import Derived.Test.YtfnneneaalaagaaLaw28
import Derived.Test.YtfnneneaalaagaaSqzLaw
namespace Go.Proofs.Ytfnneneaalaagaa
open Go.RowKit
set_option linter.unusedSimpArgs false
set_option linter.unusedVariables false

set_option maxHeartbeats 3200000 in
set_option maxRecDepth 100000 in
theorem SqueezeBack_any (vb : Value) (b : List UInt8) (n : Int) (w : World) (hb : RB w vb b) (hn : -9223372036854775808 ≤ n ∧ n ≤ 9223372036854775807) :
    Calls Try.prog 5 #[vb, .int .i64 n] w fun e w' => e = .returned (.bool true) ∧ Below w.heap.size w w' := by
  obtain ⟨A, c, rfl, hc⟩ := hb.len
  by_cases h1 : 700 < b.length
  · have h1' : (700 : Int) < (b.length : Int) := by omega
    go_enter Try.func5, Try.ntmps5
    go_wp2_with (first | (go_at_call 12; refine (alive28_any _).mono ?_; rintro e w1 ⟨rfl, hb1⟩))
    go_ret
    exact ⟨rfl, hb1⟩
  have h1' : (b.length : Int) ≤ 700 := by omega
  have H := SH.start Nil w
  obtain ⟨hsl, hsp⟩ := sqL_len b (by omega)
  have hE : sqE b = 0 := by rw [sqE, if_neg (by omega)]
  have hx := ex_sq b (by omega)
  have hcut := ex_cut b (by omega)
  obtain ⟨s, hs⟩ : ∃ s, s = sqL b := ⟨_, rfl⟩
  rw [← hs] at hsl hsp hx hcut
  have cS : ∀ W v, RB W v b → Calls Try.prog 13 #[v] W fun e w' => ∃ A c, e = .returned (.tuple #[.slice A s.length c, .int .i64 0]) ∧ s.length ≤ c ∧ OB w' W.heap.size (.slice A s.length c) s ∧ Below W.heap.size W w' := fun W v h => by
    have := Squeeze_any v b W h (by omega)
    rw [hE, ← hs] at this
    refine this.mono fun e w' ⟨v', h1, h2, h3⟩ => ?_
    obtain ⟨A, c, rfl, hc⟩ := h2.reads.len
    exact ⟨A, c, h1, hc, h2, h3⟩
  have cX : ∀ W v, RB W v s → Calls Try.prog 17 #[v] W fun e w' => ∃ v', e = .returned (.tuple #[v', .int .i64 0]) ∧ OB w' W.heap.size v' b ∧ Below W.heap.size W w' := fun W v h => by
    have := Expand_any v s W h (by omega)
    rw [hx] at this
    exact this
  obtain ⟨q, hq⟩ : ∃ q : Nat, n % (s.length : Int) = (q : Int) := ⟨_, (Int.toNat_of_nonneg (Int.emod_nonneg n (by omega))).symm⟩
  have hqs : q < s.length := by
    have h3 := Int.emod_lt_of_pos n (show (0 : Int) < (s.length : Int) by omega)
    rw [hq] at h3; omega
  obtain ⟨k, hk⟩ : ∃ k : Nat, k = if 0 < n then q else 0 := ⟨_, rfl⟩
  have hks : k < s.length := by rw [hk]; split <;> omega
  have hkn : 0 < n → n % (s.length : Int) = (k : Int) := fun h => by rw [hq, hk, if_pos h]
  have hk0 : ¬ 0 < n → k = 0 := fun h => by rw [hk, if_neg h]
  have cY : ∀ W v, RB W v (s.take k) → Calls Try.prog 17 #[v] W fun e w' => ∃ A c, e = .returned (.tuple #[.slice A 0 c, .int .i64 2]) ∧ True ∧ Below W.heap.size W w' := fun W v h => by
    have := Expand_any v _ W h (by rw [List.length_take]; omega)
    rw [hcut k hks] at this
    refine this.mono fun e w' ⟨v', h1, h2, h3⟩ => ?_
    obtain ⟨A, c, rfl, hc⟩ := h2.reads.len
    exact ⟨A, c, h1, trivial, h3⟩
  have hkt : ∀ A c w, s.length ≤ c → RB w (.slice A s.length c) s → ∃ A2, (∀ W, (Instr.slice 22 (.slice A s.length c) none (some (.int .i64 (k : Int))) none).run Try.prog W = .ok (.slice A2 k c) W) ∧ RB w (.slice A2 k c) (s.take k) := fun A c w hc h => by
    obtain ⟨A2, _, _, h3, h4⟩ := cutB A c s 0 k (by omega) (by omega) hc
    refine ⟨A2, fun W => h3 .i64 W rfl, ?_⟩
    have := h4 w h
    rw [List.drop_zero] at this
    exact this
  have hl0 : ((s.length : Int) == 0) = false := beq_eq_false_iff_ne.mpr (by omega)
  have hsl' : (s.length : Int) ≤ (b.length : Int) + 2 + ((b.length : Int) + 127) / 128 := by omega
  have CS := Lib.hid cS
  have CX := Lib.hid cX
  have CY := Lib.hid cY
  have HKT := Lib.hid hkt
  have HKN := Lib.hid hkn
  have HK0 := Lib.hid hk0
  have hsm : (s.length : Int) ≤ 1000 := by omega
  have hspi : (0 : Int) < (s.length : Int) := by omega
  clear cS cX cY hkt hkn hk0 hk hx hcut hs hE hsl hsp hq hqs
  by_cases hn0 : 0 < n
  · have hkn := HKN.out hn0
    go_enter Try.func5, Try.ntmps5
    go_wp2_with (first
      | (go_at_call 13; (with_reducible refine (CS.out _ _ hb).mono ?_); rintro e w1 ⟨A1, c1, rfl, hc1, ho, hb1⟩; replace H := H.pushRow hb1 ho; clear hb1 ho)
      | (go_at_call 17; (with_reducible refine (CX.out _ _ (H.rr 0 rfl)).mono ?_); rintro e w2 ⟨v2, rfl, ho, hb2⟩; replace H := H.pushRow hb2 ho; clear hb2 ho; have s0 := strB (H.rr 0 rfl); have s1 := strB (hb.below H.below); obtain ⟨A2, hk1, hr1⟩ := HKT.out _ _ _ hc1 (H.rr 1 rfl))
      | (go_at_call 17; (with_reducible refine (CY.out _ _ hr1).mono ?_); rintro e w3 ⟨A3, c3, rfl, -, hb3⟩; replace H := H.step hb3; clear hb3)
      | (go_at_call 12; refine (alive28_any _).mono ?_; rintro e w6 ⟨rfl, hb6⟩; replace H := H.step hb6; clear hb6))
    go_ret
    exact ⟨rfl, H.below⟩
  · have hk0 := HK0.out hn0
    subst hk0
    go_enter Try.func5, Try.ntmps5
    go_wp2_with (first
      | (go_at_call 13; (with_reducible refine (CS.out _ _ hb).mono ?_); rintro e w1 ⟨A1, c1, rfl, hc1, ho, hb1⟩; replace H := H.pushRow hb1 ho; clear hb1 ho)
      | (go_at_call 17; (with_reducible refine (CX.out _ _ (H.rr 0 rfl)).mono ?_); rintro e w2 ⟨v2, rfl, ho, hb2⟩; replace H := H.pushRow hb2 ho; clear hb2 ho; have s0 := strB (H.rr 0 rfl); have s1 := strB (hb.below H.below); obtain ⟨A2, hk1', hr1⟩ := HKT.out _ _ _ hc1 (H.rr 1 rfl); have hk1 : ∀ W, (Instr.slice 22 (.slice A1 s.length c1) none (some (.int .i64 0)) none).run Try.prog W = .ok (.slice A2 0 c1) W := hk1'; clear hk1')
      | (go_at_call 17; (with_reducible refine (CY.out _ _ hr1).mono ?_); rintro e w3 ⟨A3, c3, rfl, -, hb3⟩; replace H := H.step hb3; clear hb3)
      | (go_at_call 12; refine (alive28_any _).mono ?_; rintro e w6 ⟨rfl, hb6⟩; replace H := H.step hb6; clear hb6))
    go_ret
    exact ⟨rfl, H.below⟩

theorem and31 (n : Int) : ∃ m : Nat, m < 32 ∧ bits .and .i64 n 31 = (m : Int) := by
  refine ⟨(BitVec.ofInt 64 n).toNat &&& 31, Nat.lt_of_le_of_lt Nat.and_le_right (by decide), ?_⟩
  have h : (BitVec.ofInt 64 n).toNat &&& 31 ≤ 31 := Nat.and_le_right
  have e : bits .and .i64 n 31 = IntKind.i64.wrap (((BitVec.ofInt 64 n).toNat &&& 31 : Nat) : Int) := rfl
  rw [e, IntKind.wrap_i64]
  omega
set_option maxHeartbeats 3200000 in
set_option maxRecDepth 100000 in
theorem SqueezeRuns_any (vb : Value) (b : List UInt8) (n : Int) (w : World) (hb : RB w vb b) (hn : -9223372036854775808 ≤ n ∧ n ≤ 9223372036854775807) :
    Calls Try.prog 6 #[vb, .int .i64 n] w fun e w' => e = .returned (.bool true) ∧ Below w.heap.size w w' := by
  obtain ⟨A, c, rfl, hc⟩ := hb.len
  by_cases h0 : b.length = 0
  · have h0' : ((b.length : Int) == 0) = true := by simp [h0]
    clear h0
    go_enter Try.func6, Try.ntmps6
    go_wp2_with (first | (go_at_call 12; refine (alive28_any _).mono ?_; rintro e w1 ⟨rfl, hb1⟩))
    go_ret
    exact ⟨rfl, hb1⟩
  have h0' : ((b.length : Int) == 0) = false := by simpa using h0
  by_cases h1 : 60 < b.length
  · have h1' : (60 : Int) < (b.length : Int) := by omega
    have h1'' : decide ((60 : Int) < (b.length : Int)) = true := by simpa using h1'
    go_enter Try.func6, Try.ntmps6
    go_wp2_with (first | (go_at_call 12; refine (alive28_any _).mono ?_; rintro e w1 ⟨rfl, hb1⟩))
    go_ret
    exact ⟨rfl, hb1⟩
  have h1' : (b.length : Int) ≤ 60 := by omega
  have h1'' : decide ((60 : Int) < (b.length : Int)) = false := by simp; omega
  have H := (SH.start Nil w).pushRow (alloc_belowAt w (.cells #[] 5)) (OB.lit w w.heap.size [] #[] rfl (Nat.le_refl _) (by simp))
  obtain ⟨m, hm, hbits⟩ := and31 n
  have hlen := rows_len b
  have hb60 : b.length ≤ 60 := by omega
  have hb1 : 1 ≤ b.length := by omega
  clear h0 h1
  go_enter Try.func6, Try.ntmps6
  go_wp2
  have HLEN := Lib.hid hlen
  clear hlen
  go_loopw [5, 6] (fun v5 v6 wr => ∃ (k : Nat), v6 = .int .i64 (k : Int) ∧ k ≤ m + 1 ∧ SH Nil w wr [.row B8 v5 (rows b k)]) (fun _ v _ => 33 - (intOf v).toNat)
  case atStart => exact ⟨0, rfl, by omega, H⟩
  case round =>
    obtain ⟨k, rfl, hk, HS⟩ := hrel
    clear H
    have hmi : (m : Int) < 32 := by omega
    by_cases hkm : k < m + 1
    · have hki : (k : Int) < (m : Int) + 1 := by omega
      have hrl : (rows b k).length ≤ 2000 := by rw [HLEN.out]; exact Nat.le_trans (Nat.mul_le_mul (show k ≤ 32 by omega) hb60) (by decide)
      have HRL := Lib.hid hrl
      clear hrl
      go_wp2_with (first
        | (at_builtin; refine wAppend sB HS 0 rfl _ b (hb.below HS.below) (by have := HRL.out; show (_ + _) * 1 ≤ _; omega) _ _ rfl rfl rfl rfl ?_; clear HS; intro v7 w7 HS))
      go_roundw
      case rel => exact ⟨k + 1, by go_num, by omega, HS⟩
      case measure => simp [intOf] <;> omega
    · obtain rfl : k = m + 1 := by omega
      have hki : ¬ ((m + 1 : Nat) : Int) < (m : Int) + 1 := by omega
      have hl := runs_len b (m + 1) hb1 hb60 (by omega) (by omega)
      have hlr : (rows b (m + 1)).length ≤ 2000 := by rw [HLEN.out]; exact Nat.le_trans (Nat.mul_le_mul (show m + 1 ≤ 32 by omega) hb60) (by decide)
      have hE : sqE (rows b (m + 1)) = 0 := by rw [sqE, if_neg (by omega)]
      have hx := ex_sq (rows b (m + 1)) (by omega)
      obtain ⟨R, hR⟩ : ∃ R, R = rows b (m + 1) := ⟨_, rfl⟩
      rw [← hR] at hl hlr hE hx HS
      obtain ⟨s, hs⟩ : ∃ s, s = sqL R := ⟨_, rfl⟩
      rw [← hs] at hl hx
      have hsm : s.length ≤ 10000 := by omega
      have cS : ∀ W v, RB W v R → Calls Try.prog 13 #[v] W fun e w' => ∃ A c, e = .returned (.tuple #[.slice A s.length c, .int .i64 0]) ∧ s.length ≤ c ∧ OB w' W.heap.size (.slice A s.length c) s ∧ Below W.heap.size W w' := fun W v h => by
        have := Squeeze_any v R W h (by omega)
        rw [hE, ← hs] at this
        refine this.mono fun e w' ⟨v', h1, h2, h3⟩ => ?_
        obtain ⟨A, c, rfl, hc⟩ := h2.reads.len
        exact ⟨A, c, h1, hc, h2, h3⟩
      have cX : ∀ W v, RB W v s → Calls Try.prog 17 #[v] W fun e w' => ∃ v', e = .returned (.tuple #[v', .int .i64 0]) ∧ OB w' W.heap.size v' R ∧ Below W.heap.size W w' := fun W v h => by
        have := Expand_any v s W h (by omega)
        rw [hx] at this
        exact this
      have hl' : (s.length : Int) ≤ (b.length : Int) + 8 + 2 * ((R.length : Int) / 131) := by omega
      have hRm : (R.length : Int) ≤ 2000 := by omega
      have hsmi : (s.length : Int) ≤ 10000 := by omega
      have hbc : ((m + 1 : Nat) : Int) = (m : Int) + 1 := by omega
      obtain ⟨AR, cR, rfl, hcR⟩ := (HS.rr 0 rfl).len
      have CS := Lib.hid cS
      have CX := Lib.hid cX
      clear cS cX hl hlr hE hx hR hs hk hkm hsm
      go_wp2_with (first
        | (go_at_call 13; (with_reducible refine (CS.out _ _ (HS.rr 0 rfl)).mono ?_); rintro e w1 ⟨A1, c1, rfl, hc1, ho, hb1⟩; replace HS := HS.pushRow hb1 ho; clear hb1 ho)
        | (go_at_call 17; (with_reducible refine (CX.out _ _ (HS.rr 0 rfl)).mono ?_); rintro e w2 ⟨v2, rfl, ho, hb2⟩; replace HS := HS.pushRow hb2 ho; clear hb2 ho)
        | (go_at_call 12; refine (alive28_any _).mono ?_; rintro e w6 ⟨rfl, hb6⟩; replace HS := HS.step hb6; clear hb6; have s0 := strB (HS.rr 0 rfl); have s1 := strB (HS.rr 2 rfl)))
      go_ret
      exact ⟨rfl, HS.below⟩
end Go.Proofs.Ytfnneneaalaagaa
