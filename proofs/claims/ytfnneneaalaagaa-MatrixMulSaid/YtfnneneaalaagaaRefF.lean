/- The reference of layer 25: the product. -/
import Derived.Test.YtfnneneaalaagaaBase
import Derived.Test.YtfnneneaalaagaaBits
import Derived.Test.YtfnneneaalaagaaFieldRef
import Derived.Deep.OwnRows
import Derived.StillTailTactics
namespace Go.Proofs.Ytfnneneaalaagaa
open Go.RowKit

/-- Cell t of a number's bits. -/
def bc (N t : Nat) : Value := .int .i64 (bit1 N t)
theorem bit1_01 (N t : Nat) : 0 ≤ bit1 N t ∧ bit1 N t ≤ 1 := by unfold bit1; split <;> omega
theorem bit1_nat (N t : Nat) : bit1 N t = ((N / 2 ^ t % 2 : Nat) : Int) := by
  unfold bit1
  rw [Nat.testBit_eq_decide_div_mod_eq]
  rcases Nat.mod_two_eq_zero_or_one (N / 2 ^ t) with h | h <;> rw [h] <;> rfl
theorem bitv (a : UInt8) (i : Nat) : bits .and .u8 ((a.toNat : Int) / 2 ^ i) 1 = bit1 a.toNat i := by
  have h : ((a.toNat : Int) / 2 ^ i) = ((a.toNat / 2 ^ i : Nat) : Int) := by simp
  have hl : a.toNat / 2 ^ i < 256 := Nat.lt_of_le_of_lt (Nat.div_le_self _ _) a.toNat_lt
  rw [h, show (1 : Int) = ((1 : Nat) : Int) from rfl, (bits_nats .u8 rfl (a.toNat / 2 ^ i) 1 hl (by decide)).1, Nat.and_one_is_mod, bit1_nat]
theorem bc_flip (N t : Nat) (v : Value) (hv : v = .int .i64 (1 - bit1 N t)) (j : Nat) : (if j = t then v else bc N j) = bc (N ^^^ 2 ^ t) j := by
  subst hv
  unfold bc bit1
  rw [Nat.testBit_xor]
  by_cases h : j = t
  · subst h
    rw [if_pos rfl, Nat.testBit_two_pow_self]
    cases N.testBit j <;> simp
  · rw [if_neg h, Nat.testBit_two_pow_of_ne (fun e => h e.symm)]
    simp
theorem bit_sum (N i : Nat) (c : Int) (h : i < 8) (hc : c = bit1 N i) : ((N : Int) % 2 ^ i + c * 2 ^ i % 256) % 256 = ((N % 2 ^ (i + 1) : Nat) : Int) := by
  rw [hc, bit1_nat]
  clear hc
  rcases i with _ | _ | _ | _ | _ | _ | _ | _ | i <;> first | omega | (simp only [Nat.zero_add, Nat.reduceAdd, Nat.reducePow, Int.reducePow, Int.natCast_emod, Int.natCast_ediv]; omega)

set_option maxHeartbeats 1600000 in
set_option maxRecDepth 100000 in
theorem RMul_any (a b : UInt8) (w : World) : Calls Try.prog 67 #[.int .u8 (a.toNat : Int), .int .u8 (b.toNat : Int)] w fun e w' => e = .returned (cb (rmul a b)) ∧ Below w.heap.size w w' := by
  go_enter Try.func67, Try.ntmps67
  go_wp2
  go_loopw [6] (fun v6 wr => ∃ (i : Nat), v6 = .int .i64 (i : Int) ∧ i ≤ 8 ∧ wr.rowIs w.heap.size 99 16 (bc (cl a.toNat b.toNat i)) ∧ Below w.heap.size w wr) (fun i _ => 8 - (intOf i).toNat)
  case atStart =>
    refine ⟨0, rfl, by omega, ?_, (Below.refl _ _).alloc (Nat.le_refl _) _⟩
    refine (World.rowIs_alloc w _ 99 (fun _ => .int .i64 0) ?_).congr ?_
    · intro i hi
      have : ∀ i, i < 16 → (#[Value.int .i64 0, .int .i64 0, .int .i64 0, .int .i64 0, .int .i64 0, .int .i64 0, .int .i64 0, .int .i64 0, .int .i64 0, .int .i64 0, .int .i64 0, .int .i64 0, .int .i64 0, .int .i64 0, .int .i64 0, .int .i64 0] : Array Value)[i]? = some (.int .i64 0) := by
        intro i hi
        rcases i with _ | _ | _ | _ | _ | _ | _ | _ | _ | _ | _ | _ | _ | _ | _ | _ | i <;> first | rfl | omega
      exact this i hi
    · intro i _
      simp [bc, cl, bit1]
  case round =>
    obtain ⟨i, rfl, hi, hrow, hb⟩ := hrel
    by_cases h8 : i < 8
    · have h8' : (i : Int) < 8 := by omega
      go_wp2
      go_loopw [7] (fun v7 wr2 => ∃ (j : Nat), v7 = .int .i64 (j : Int) ∧ j ≤ 8 ∧ wr2.rowIs w.heap.size 99 16 (bc (clIn a.toNat b.toNat i j)) ∧ Below w.heap.size w wr2) (fun i _ => 8 - (intOf i).toNat)
      case atStart => exact ⟨0, rfl, by omega, by rw [clIn_zero]; exact hrow, hb⟩
      case round =>
        obtain ⟨j, rfl, hj, hrow2, hb2⟩ := hrel
        by_cases h8j : j < 8
        · have h8j' : (j : Int) < 8 := by omega
          have ha := bitv a i
          have hbb := bitv b j
          by_cases hai : a.toNat.testBit i = true
          · rw [bit1, if_pos hai] at ha
            by_cases hbj : b.toNat.testBit j = true
            · rw [bit1, if_pos hbj] at hbb
              have hcell := hrow2.cell (show i + j < 16 by omega)
              have hfr := hrow2.frozen (i + j)
              obtain ⟨cv, hcv⟩ : ∃ z, z = bit1 (clIn a.toNat b.toNat i j) (i + j) := ⟨_, rfl⟩
              rw [bc, ← hcv] at hcell
              have h01 := bit1_01 (clIn a.toNat b.toNat i j) (i + j)
              rw [← hcv] at h01
              obtain ⟨h0, h1⟩ := h01
              have HCV := Lib.hid hcv
              have HA := Lib.hid hai
              have HB := Lib.hid hbj
              clear hcv hai hbj
              go_wp2
              go_roundw
              case rel => exact ⟨j + 1, by go_num, by omega, (hrow2.set _ _).congr (fun t _ => (bc_flip _ _ _ (by rw [HCV.out]) t).trans (by rw [clIn_yes _ _ _ _ HA.out HB.out])), hb2.setCell (Nat.le_refl _) _⟩
              case measure => simp [intOf]; omega
            · rw [bit1, if_neg hbj] at hbb
              have HB := Lib.hid hbj
              clear hai hbj
              go_wp2
              go_roundw
              case rel => exact ⟨j + 1, by go_num, by omega, by rw [← clIn_no _ _ _ _ (.inr (by simpa using HB.out))]; exact hrow2, hb2⟩
              case measure => simp [intOf]; omega
          · rw [bit1, if_neg hai] at ha
            have HA := Lib.hid hai
            clear hai hbb
            go_wp2
            go_roundw
            case rel => exact ⟨j + 1, by go_num, by omega, by rw [← clIn_no _ _ _ _ (.inl (by simpa using HA.out))]; exact hrow2, hb2⟩
            case measure => simp [intOf]; omega
        · have h8j' : (8 : Int) ≤ (j : Int) := by omega
          obtain rfl : j = 8 := by omega
          rw [clIn_all _ _ _ b.toNat_lt] at hrow2
          go_wp2
          exact ⟨⟨i + 1, by go_num, by omega, hrow2, hb2⟩, by simp [intOf]; omega⟩
    · have h8' : (8 : Int) ≤ (i : Int) := by omega
      have hi8 : i = 8 := by omega
      rw [hi8] at hrow
      clear hi8
      generalize hN0 : cl a.toNat b.toNat 8 = N0 at hrow
      have hB0 : w.heap.size < wr.heap.size := hrow.lt
      generalize hE : wr.heap.size = E at hB0
      have hexps : (wr.alloc (.cells #[.int .i64 8, .int .i64 4, .int .i64 3, .int .i64 2, .int .i64 0] 3)).rowIs E 3 5 (fun j => .int .i64 (exps.getD j 0 : Nat)) := by
        rw [← hE]
        refine World.rowIs_alloc wr _ _ _ ?_
        intro t ht
        rcases t with _ | _ | _ | _ | _ | t <;> first | rfl | (simp at ht; omega)
      have hrow0 := hrow.alloc (.cells #[.int .i64 8, .int .i64 4, .int .i64 3, .int .i64 2, .int .i64 0] 3)
      have hbz : Below w.heap.size w (wr.alloc (.cells #[.int .i64 8, .int .i64 4, .int .i64 3, .int .i64 2, .int .i64 0] 3)) := hb.alloc (by omega) _
      clear hrow hb hi h8
      go_wp2
      clear h8'
      have HB0 : Go.RowKit.Hid (w.heap.size < E) := Lib.hid hB0
      clear hE hB0
      go_loopw [9] (fun v9 wr2 => ∃ (m N : Nat), v9 = .int .i64 (m : Int) ∧ 7 ≤ m ∧ m ≤ 15 ∧ wr2.rowIs w.heap.size 99 16 (bc N) ∧ wr2.rowIs E 3 5 (fun j => .int .i64 (exps.getD j 0 : Nat)) ∧ Below w.heap.size w wr2 ∧ rdF (m - 7) N = rdF 8 N0) (fun i _ => (intOf i).toNat)
      case atStart => exact ⟨15, N0, rfl, by omega, by omega, hrow0, hexps, hbz, rfl⟩
      case round =>
        obtain ⟨m, N, rfl, hm7, hm15, hrow, hex, hb, hrd⟩ := hrel
        have HRD := Lib.hid hrd
        clear hrd hrow0 hexps hbz
        by_cases h7 : m = 7
        · have h7' : (m : Int) < 8 := by omega
          obtain rfl := h7
          have hN : N = rdF 8 N0 := HRD.out
          have HN := Lib.hid hN
          clear hN hex HRD hm7 hm15
          go_wp2
          go_loopw [11, 12] (fun v11 v12 wr2 => ∃ (i : Nat), v12 = .int .i64 (i : Int) ∧ i ≤ 8 ∧ v11 = .int .u8 ((N % 2 ^ i : Nat) : Int) ∧ wr2 = wr) (fun _ i _ => 8 - (intOf i).toNat)
          case atStart => exact ⟨0, rfl, by omega, by simp [Nat.mod_one], rfl⟩
          case round =>
            obtain ⟨i, rfl, hi, rfl, rfl⟩ := hrel
            by_cases h8 : i < 8
            · have h8' : (i : Int) < 8 := by omega
              have hcell := hrow.cell (show i < 16 by omega)
              rw [bc] at hcell
              obtain ⟨cv, hcv⟩ : ∃ z, z = bit1 N i := ⟨_, rfl⟩
              rw [← hcv] at hcell
              obtain ⟨h0, h1⟩ := bit1_01 N i
              rw [← hcv] at h0 h1
              have HCV := Lib.hid hcv
              clear hcv
              go_wp2
              exact ⟨⟨i + 1, by go_num, by omega, by rw [← bit_sum N i cv h8 HCV.out], trivial⟩, by simp [intOf]; omega⟩
            · obtain rfl : i = 8 := by omega
              go_wp2
              go_ret
              refine ⟨?_, hb⟩
              show Ending.returned (.int .u8 _) = _
              rw [rmul, cb, hN0, ← HN.out, UInt8.toNat_ofNat']
        · have h8' : (8 : Int) ≤ (m : Int) := by omega
          have hcell := hrow.cell (show m < 16 by omega)
          have hstep : rdF (m - 7) N = rdF (m - 8) (rdStep m N) := by
            rw [show m - 7 = (m - 8) + 1 by omega, rdF, show 8 + (m - 8) = m by omega]
          rw [bc, bit1] at hcell
          by_cases hbit : N.testBit m = true
          · rw [if_pos hbit] at hcell
            rw [rdStep, if_pos hbit, ← rdIn_all] at hstep
            have HST := Lib.hid hstep
            have HBT := Lib.hid hbit
            clear hstep hbit
            go_wp2
            go_loopw [10] (fun v10 wr3 => ∃ (j : Nat), v10 = .int .i64 (j : Int) ∧ j ≤ 5 ∧ wr3.rowIs w.heap.size 99 16 (bc (rdIn m N j)) ∧ wr3.rowIs E 3 5 (fun j => .int .i64 (exps.getD j 0 : Nat)) ∧ Below w.heap.size w wr3) (fun i _ => 5 - (intOf i).toNat)
            case atStart => exact ⟨0, rfl, by omega, hrow, hex, hb⟩
            case round =>
              obtain ⟨j, rfl, hj, hrow3, hex3, hb3⟩ := hrel
              clear hrow hex hb hcell
              by_cases h5 : j < 5
              · have h5' : (j : Int) < 5 := by omega
                have hx8 : exps.getD j 0 ≤ 8 := by
                  rcases j with _ | _ | _ | _ | _ | j <;> first | decide | omega
                have hcE := hex3.cell h5
                obtain ⟨x, hx⟩ : ∃ x, x = exps.getD j 0 := ⟨_, rfl⟩
                rw [← hx] at hx8
                simp only [← hx] at hcE
                have hcB := hrow3.cell (show m - 8 + x < 16 by omega)
                have hfr := hrow3.frozen (m - 8 + x)
                obtain ⟨cv, hcv⟩ : ∃ z, z = bit1 (rdIn m N j) (m - 8 + x) := ⟨_, rfl⟩
                rw [bc, ← hcv] at hcB
                obtain ⟨h0, h1⟩ := bit1_01 (rdIn m N j) (m - 8 + x)
                rw [← hcv] at h0 h1
                have HCV := Lib.hid hcv
                have HX := Lib.hid hx
                clear hcv hx
                have hidx : ((m : Int) - 8 + (x : Int)).toNat = m - 8 + x := by omega
                have hw1 : IntKind.i64.wrap ((m : Int) - 8 + (x : Int)) = (m : Int) - 8 + (x : Int) := by rw [IntKind.wrap_i64]; omega
                have hw2 : IntKind.i64.wrap ((m : Int) - 8) = (m : Int) - 8 := by rw [IntKind.wrap_i64]; omega
                have hlo : 0 ≤ (m : Int) - 8 + (x : Int) := by omega
                have hhi : (m : Int) - 8 + (x : Int) < 16 := by omega
                go_wp2_with fail
                go_still_tail 18, (by kernel_rfl)
                have hrow4 : wr.drew.rowIs w.heap.size 99 16 (bc (rdIn m N j)) := hrow3
                have hex4 : wr.drew.rowIs E 3 5 (fun j => .int .i64 (exps.getD j 0 : Nat)) := hex3
                have hb4 : Below w.heap.size w wr.drew := hb3.drew
                have hcB4 : wr.drew.cell? ⟨w.heap.size, m - 8 + x, none⟩ = some (.int .i64 cv) := hcB
                have hfr4 : wr.drew.frozen? ⟨w.heap.size, m - 8 + x, none⟩ = false := hfr
                clear hrow3 hex3 hb3 hcB hfr hcE
                change wpList _ _ _ _ _ wr.drew
                generalize wr.drew = w2 at hrow4 hex4 hb4 hcB4 hfr4 ⊢
                go_wp2
                go_roundw
                case rel =>
                  exact ⟨j + 1, by go_num, by omega, (hrow4.set _ _).congr (fun t _ => (bc_flip _ _ _ (by rw [HCV.out]) t).trans (by rw [rdIn, HX.out])), hex4.setOther (by have := HB0.out; show _ ≠ w.heap.size; omega) _, hb4.setCell (Nat.le_refl _) _⟩
                case measure => simp [intOf]; omega
              · obtain rfl : j = 5 := by omega
                have h5' : (5 : Int) ≤ ((5 : Nat) : Int) := by omega
                go_wp2
                exact ⟨⟨m - 1, rdIn m N 5, by go_num, by omega, by omega, hrow3, hex3, hb3, by rw [← HRD.out, HST.out, show m - 1 - 7 = m - 8 by omega]⟩, by simp [intOf]; omega⟩
          · rw [if_neg hbit] at hcell
            rw [rdStep, if_neg hbit] at hstep
            have HST := Lib.hid hstep
            clear hstep hbit
            go_wp2
            exact ⟨⟨m - 1, N, by go_num, by omega, by omega, hrow, hex, hb, by rw [← HRD.out, HST.out, show m - 1 - 7 = m - 8 by omega]⟩, by simp [intOf]; omega⟩
end Go.Proofs.Ytfnneneaalaagaa
