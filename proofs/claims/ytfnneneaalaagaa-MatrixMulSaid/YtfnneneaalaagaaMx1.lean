/- Layer 26: matrices as values; rows; what fills a matrix. -/
import Derived.Test.YtfnneneaalaagaaSep3
import Derived.Test.YtfnneneaalaagaaAggB
namespace Go.Proofs.Ytfnneneaalaagaa
open Go.RowKit
set_option linter.unusedSimpArgs false
set_option linter.unusedVariables false

/-- A slice's value. -/
abbrev SV := Option Addr × Nat × Nat
def SV.val (s : SV) : Value := .slice s.1 s.2.1 s.2.2
/-- A matrix's value: rows, columns, elements. -/
abbrev MX := Int × Int × SV
def mxC (m : MX) : List Value := [.int .i64 m.1, .int .i64 m.2.1, m.2.2.val]
theorem mxC_one (m : MX) : ∀ v ∈ mxC m, v.oneCell' = true := by
  intro v hv
  simp only [mxC, List.mem_cons, List.not_mem_nil, or_false] at hv
  rcases hv with rfl | rfl | rfl <;> rfl
def mxT : AT Try.prog MX := ⟨32, mxC, 3, fun _ => rfl, mxC_one, _, Try.underlying32, rfl, by kernel_rfl, (0, 0, none, 0, 0), by kernel_rfl, by kernel_rfl⟩
def rxT : AT Try.prog MX := ⟨38, mxC, 3, fun _ => rfl, mxC_one, _, Try.underlying38, rfl, by kernel_rfl, (0, 0, none, 0, 0), by kernel_rfl, by kernel_rfl⟩

theorem isSize_any (n : Int) (w : World) : Calls Try.prog 49 #[.int .i64 n] w fun e w' => e = .returned (.bool (decide (1 ≤ n) && decide (n ≤ 32))) ∧ w = w' := by
  by_cases h : 1 ≤ n
  · have h1 : decide (1 ≤ n) = true := by simpa using h
    rw [h1]
    go_enter Try.func49, Try.ntmps49
    go_wp2
    go_ret
    exact ⟨by simp, rfl⟩
  · have h1 : decide (1 ≤ n) = false := by simpa using h
    rw [h1]
    go_enter Try.func49, Try.ntmps49
    go_wp2
    go_ret
    exact ⟨by simp, rfl⟩
def sizeB (n : Int) : Bool := decide (1 ≤ n) && decide (n ≤ 32)
theorem sizeB_iff (n : Int) : sizeB n = true ↔ 1 ≤ n ∧ n ≤ 32 := by simp [sizeB]
/-- May a matrix be? -/
def mayB (r c : Int) (n : Nat) : Bool := if sizeB r = true then (if sizeB c = true then (n : Int) == r * c else false) else false
set_option maxHeartbeats 1600000 in
set_option maxRecDepth 100000 in
theorem MMay_any (r c : Int) (A : Option Addr) (n cp : Nat) (w : World) : Calls Try.prog 37 #[.agg (mxT.enc (r, c, A, n, cp)).toArray] w fun e w' => e = .returned (.bool (mayB r c n)) ∧ Below w.heap.size w w' := by
  have H0 := SH.start Nil w
  have cI : ∀ (x : Int) (W : World), Calls Try.prog 49 #[.int .i64 x] W fun e w' => e = .returned (.bool (sizeB x)) ∧ W = w' := isSize_any
  cases hr : sizeB r with
  | false =>
    have hm : mayB r c n = false := by rw [mayB, hr]; rfl
    rw [hm]
    have CI := Lib.hid cI
    clear cI hm
    go_enter Try.func37, Try.ntmps37
    go_wp2_with (first
      | ((with_reducible refine gBox ?_); refine wBox mxT (r, c, A, n, cp) H0 _ rfl rfl rfl ?_; clear H0; intro w1 H; have k0 : w1.cell? ⟨w.heap.size, 0, none⟩ = some (.int .i64 r) := (H.va 0 rfl).cell 0; have k1 : w1.cell? ⟨w.heap.size, 1, none⟩ = some (.int .i64 c) := (H.va 0 rfl).cell 1; have k2 : w1.cell? ⟨w.heap.size, 2, none⟩ = some (.slice A n cp) := (H.va 0 rfl).cell 2)
      | (go_at_call 49; (with_reducible refine (CI.out _ _).mono ?_); rintro e w2 ⟨rfl, rfl⟩))
    go_ret
    exact ⟨rfl, H.below⟩
  | true =>
    have hrb := (sizeB_iff r).1 hr
    cases hcs : sizeB c with
    | false =>
      have hm : mayB r c n = false := by rw [mayB, hr, hcs]; rfl
      rw [hm]
      have CI := Lib.hid cI
      clear cI hm
      go_enter Try.func37, Try.ntmps37
      go_wp2_with (first
        | ((with_reducible refine gBox ?_); refine wBox mxT (r, c, A, n, cp) H0 _ rfl rfl rfl ?_; clear H0; intro w1 H; have k0 : w1.cell? ⟨w.heap.size, 0, none⟩ = some (.int .i64 r) := (H.va 0 rfl).cell 0; have k1 : w1.cell? ⟨w.heap.size, 1, none⟩ = some (.int .i64 c) := (H.va 0 rfl).cell 1; have k2 : w1.cell? ⟨w.heap.size, 2, none⟩ = some (.slice A n cp) := (H.va 0 rfl).cell 2)
        | (go_at_call 49; (with_reducible refine (CI.out _ _).mono ?_); rintro e w2 ⟨rfl, rfl⟩))
      go_ret
      exact ⟨rfl, H.below⟩
    | true =>
      have hcb := (sizeB_iff c).1 hcs
      have hm : mayB r c n = ((n : Int) == r * c) := by rw [mayB, hr, hcs]; rfl
      have hlo : 0 ≤ r * c := Int.mul_nonneg (by omega) (by omega)
      have hhi : r * c ≤ 32 * 32 := Int.mul_le_mul hrb.2 hcb.2 (by omega) (by omega)
      rw [hm]
      have CI := Lib.hid cI
      clear cI hm
      go_enter Try.func37, Try.ntmps37
      go_wp2_with (first
        | ((with_reducible refine gBox ?_); refine wBox mxT (r, c, A, n, cp) H0 _ rfl rfl rfl ?_; clear H0; intro w1 H; have k0 : w1.cell? ⟨w.heap.size, 0, none⟩ = some (.int .i64 r) := (H.va 0 rfl).cell 0; have k1 : w1.cell? ⟨w.heap.size, 1, none⟩ = some (.int .i64 c) := (H.va 0 rfl).cell 1; have k2 : w1.cell? ⟨w.heap.size, 2, none⟩ = some (.slice A n cp) := (H.va 0 rfl).cell 2)
        | (go_at_call 49; (with_reducible refine (CI.out _ _).mono ?_); rintro e w2 ⟨rfl, rfl⟩))
      go_ret
      exact ⟨rfl, H.below⟩

/-- A cut with its capacity. -/
theorem cut3 (ad : Addr) (n cp p q : Nat) (hpq : p < q) (hq : q ≤ cp) (W : World) :
    (Instr.slice 22 (.slice (some ad) n cp) (some (.int .i64 (p : Int))) (some (.int .i64 (q : Int))) (some (.int .i64 (q : Int)))).run Try.prog W = .ok (.slice (some (ad.add p)) (q - p) (q - p)) W := by
  obtain ⟨i0, hi, hz⟩ := Option.map_eq_some_iff.1 Try.info_u8
  simp only [Prod.mk.injEq] at hz
  obtain ⟨_, hsz, _⟩ := hz
  have hel : Try.prog.elem 22 = 5 := by simp [Program.elem, Try.underlying22]
  rw [run_slice_lhm W 22 (some ad) n cp (by rw [hel]; exact Try.underlying22) .i64 .i64 .i64 (p : Int) (q : Int) (q : Int) (by omega) (by omega) (by omega) (by omega), hel]
  simp [sizeOf, typeInfo, hi, hsz, sliced, Result.andThen]
  omega
theorem row_any (r : Int) (cN i : Nat) (ad : Addr) (n cp : Nat) (w : World) (hc : 0 < cN) (hn : (i + 1) * cN ≤ n) (hcp : n ≤ cp) (hb : n ≤ 1000000) :
    Calls Try.prog 51 #[.agg (mxT.enc (r, (cN : Int), some ad, n, cp)).toArray, .int .i64 (i : Int)] w fun e w' => e = .returned (.slice (some (ad.add (i * cN))) cN cN) ∧ Below w.heap.size w w' := by
  have H0 := SH.start Nil w
  have hqq : (i + 1) * cN = i * cN + cN := Nat.succ_mul i cN
  obtain ⟨p, hp⟩ : ∃ p, p = i * cN := ⟨_, rfl⟩
  rw [← hp] at hqq ⊢
  rw [hqq] at hn
  have hpI : (i : Int) * (cN : Int) = (p : Int) := by rw [hp]; push_cast; rfl
  have hqI : ((i : Int) + 1) * (cN : Int) = ((p + cN : Nat) : Int) := by rw [← hqq]; push_cast; rfl
  have hcut := cut3 ad n cp p (p + cN) (by omega) (by omega)
  rw [Nat.add_sub_cancel_left] at hcut
  have hi : i ≤ 1000000 := by
    have h1 : i * 1 ≤ i * cN := Nat.mul_le_mul_left i hc
    omega
  have hiI : (i : Int) ≤ 1000000 := by omega
  have hpb : (p : Int) ≤ 1000000 := by omega
  have hqb : ((p + cN : Nat) : Int) ≤ 1000000 := by omega
  clear hp hqq hi hn hcp
  generalize p + cN = q at *
  go_enter Try.func51, Try.ntmps51
  go_wp2_with (first
    | ((with_reducible refine gBox ?_); refine wBox mxT (r, (cN : Int), some ad, n, cp) H0 _ rfl rfl rfl ?_; clear H0; intro w1 H; have k0 : w1.cell? ⟨w.heap.size, 0, none⟩ = some (.int .i64 r) := (H.va 0 rfl).cell 0; have k1 : w1.cell? ⟨w.heap.size, 1, none⟩ = some (.int .i64 (cN : Int)) := (H.va 0 rfl).cell 1; have k2 : w1.cell? ⟨w.heap.size, 2, none⟩ = some (.slice (some ad) n cp) := (H.va 0 rfl).cell 2))
  go_ret
  exact ⟨rfl, H.below⟩
theorem unit_any (i j : Int) (w : World) : Calls Try.prog 54 #[.int .i64 i, .int .i64 j] w fun e w' => e = .returned (.int .u8 ((if i = j then 1 else 0 : UInt8).toNat : Int)) ∧ w = w' := by
  by_cases h : i = j
  · rw [if_pos h]
    have h1 : (i == j) = true := by simpa using h
    clear h
    go_enter Try.func54, Try.ntmps54
    go_wp2
    go_ret
    exact ⟨rfl, rfl⟩
  · rw [if_neg h]
    have h1 : (i == j) = false := by simpa using h
    clear h
    go_enter Try.func54, Try.ntmps54
    go_wp2
    go_ret
    exact ⟨rfl, rfl⟩
end Go.Proofs.Ytfnneneaalaagaa
