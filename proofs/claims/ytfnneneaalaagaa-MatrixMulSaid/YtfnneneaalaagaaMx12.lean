/- Layer 26: the reference's May, at; the program's Pick$1. -/
import Derived.Test.YtfnneneaalaagaaMx7
namespace Go.Proofs.Ytfnneneaalaagaa
open Go.RowKit
set_option linter.unusedSimpArgs false
set_option linter.unusedVariables false

set_option maxHeartbeats 1600000 in
set_option maxRecDepth 100000 in
theorem rMay_any (r c : Int) (A : Option Addr) (n cp : Nat) (w : World) : Calls Try.prog 38 #[.agg (rxT.enc (r, c, A, n, cp)).toArray] w fun e w' => e = .returned (.bool (mayB r c n)) ∧ Below w.heap.size w w' := by
  have H0 := SH.start Nil w
  have hd : (decide (1 ≤ r) = false ∧ mayB r c n = false) ∨ (decide (1 ≤ r) = true ∧ decide (r ≤ 32) = false ∧ mayB r c n = false) ∨ (decide (1 ≤ r) = true ∧ decide (r ≤ 32) = true ∧ decide (1 ≤ c) = false ∧ mayB r c n = false) ∨ (decide (1 ≤ r) = true ∧ decide (r ≤ 32) = true ∧ decide (1 ≤ c) = true ∧ decide (c ≤ 32) = false ∧ mayB r c n = false) ∨ (decide (1 ≤ r) = true ∧ decide (r ≤ 32) = true ∧ decide (1 ≤ c) = true ∧ decide (c ≤ 32) = true ∧ 0 ≤ r * c ∧ r * c ≤ 32 * 32 ∧ mayB r c n = ((n : Int) == r * c)) := by
    unfold mayB sizeB
    by_cases a1 : 1 ≤ r <;> by_cases a2 : r ≤ 32 <;> by_cases a3 : 1 ≤ c <;> by_cases a4 : c ≤ 32 <;> simp [a1, a2, a3, a4]
    exact ⟨Int.mul_nonneg (by omega) (by omega), Int.mul_le_mul a2 a4 (by omega) (by omega)⟩
  rcases hd with ⟨d1, hm⟩ | ⟨d1, d2, hm⟩ | ⟨d1, d2, d3, hm⟩ | ⟨d1, d2, d3, d4, hm⟩ | ⟨d1, d2, d3, d4, hlo, hhi, hm⟩
  all_goals
    rw [hm]
    clear hm
    go_enter Try.func38, Try.ntmps38
    go_wp2_with (first
      | ((with_reducible refine gBox ?_); refine wBox rxT (r, c, A, n, cp) H0 _ rfl rfl rfl ?_; clear H0; intro w1 H; have k0 : w1.cell? ⟨w.heap.size, 0, none⟩ = some (.int .i64 r) := (H.va 0 rfl).cell 0; have k1 : w1.cell? ⟨w.heap.size, 1, none⟩ = some (.int .i64 c) := (H.va 0 rfl).cell 1; have k2 : w1.cell? ⟨w.heap.size, 2, none⟩ = some (.slice A n cp) := (H.va 0 rfl).cell 2))
    go_ret
    exact ⟨rfl, H.below⟩

set_option maxHeartbeats 1600000 in
set_option maxRecDepth 100000 in
theorem rat_any (l : List UInt8) (r : Int) (c i j : Nat) (A : Option Addr) (n cp : Nat) (w : World) (hv : RB w (.slice A n cp) l) (hl : l.length = n) (hn : n ≤ 1000000) (hc : c ≤ 1000) (hi : i ≤ 1000) (hj : j ≤ 1000) (hq : i * c + j < n) :
    Calls Try.prog 52 #[.agg (rxT.enc (r, (c : Int), A, n, cp)).toArray, .int .i64 (i : Int), .int .i64 (j : Int)] w fun e w' => e = .returned (.int .u8 ((l.getD (i * c + j) 0).toNat : Int)) ∧ Below w.heap.size w w' := by
  have H0 := SH.start Nil w
  obtain ⟨ad, rfl, hcc⟩ := hv.byte (by omega)
  have hcell := hcc (i * c + j) (by omega)
  clear hcc
  obtain ⟨p, hp⟩ : ∃ p, p = i * c := ⟨_, rfl⟩
  have hpI : (i : Int) * (c : Int) = (p : Int) := by rw [hp]; push_cast; rfl
  rw [← hp] at hq hcell ⊢
  obtain ⟨q, hqe⟩ : ∃ q, q = p + j := ⟨_, rfl⟩
  have hqI : (p : Int) + (j : Int) = (q : Int) := by rw [hqe]; push_cast; rfl
  rw [← hqe] at hq hcell ⊢
  have hpb : (p : Int) ≤ 1000000 := by omega
  have hqb : (q : Int) ≤ 1000000 := by omega
  have hqn : (q : Int) < (n : Int) := by omega
  clear hp hqe hl
  generalize l.getD q 0 = x at *
  have HC := Lib.hid hcell
  clear hcell hv
  go_enter Try.func52, Try.ntmps52
  go_wp2_with (first
    | ((with_reducible refine gBox ?_); refine wBox rxT (r, (c : Int), some ad, n, cp) H0 _ rfl rfl rfl ?_; clear H0; intro w1 H; have k1 : w1.cell? ⟨w.heap.size, 1, none⟩ = some (.int .i64 (c : Int)) := (H.va 0 rfl).cell 1; have k2 : w1.cell? ⟨w.heap.size, 2, none⟩ = some (.slice (some ad) n cp) := (H.va 0 rfl).cell 2; have hcl := cell_below H.below HC.out))
  go_ret
  exact ⟨rfl, H.below⟩

/-- Does a number name none of r rows? -/
def badRow (r x : Int) : Bool := decide (x < 0) || decide (r ≤ x)
theorem Pick1_any (r x : Int) (b : Nat) (w : World) (hr : w.cell? ⟨b, 0, none⟩ = some (.int .i64 r)) : Calls Try.prog 48 #[.int .i64 x, .pointer (some ⟨b, 0, none⟩)] w fun e w' => e = .returned (.bool (badRow r x)) ∧ w = w' := by
  unfold badRow
  by_cases h : x < 0
  · have h1 : decide (x < 0) = true := by simpa using h
    rw [h1]
    go_enter Try.func48, Try.ntmps48
    go_wp2
    go_ret
    exact ⟨by simp, rfl⟩
  · have h1 : decide (x < 0) = false := by simpa using h
    rw [h1]
    go_enter Try.func48, Try.ntmps48
    go_wp2
    go_ret
    exact ⟨by simp, rfl⟩
theorem enter_pick1 : ∀ args W, (callFunc 48 args).run Try.prog W = .ok (.enter 48 args) W := fun args W => Go.MuLone.run_callFunc_enter Try.func48 (by kernel_rfl) rfl args W
end Go.Proofs.Ytfnneneaalaagaa
