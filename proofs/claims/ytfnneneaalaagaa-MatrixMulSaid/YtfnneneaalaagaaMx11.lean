/- Layer 26: the reference's codes. -/
import Derived.Test.YtfnneneaalaagaaMx10
import Derived.Test.YtfnneneaalaagaaRefF2
namespace Go.Proofs.Ytfnneneaalaagaa
open Go.RowKit
set_option linter.unusedSimpArgs false
set_option linter.unusedVariables false

theorem finv0_eq (a : UInt8) : finv0 a = finv a := by
  unfold finv0
  by_cases h : a = 0
  · rw [if_pos h, h, finv_zero]
  · rw [if_neg h]
def relCd (n k : Nat) (w : World) (bm br : Nat) (v7 : Value) (wr : World) : Prop := ∃ (i : Nat) (A : Option Addr) (cp : Nat), v7 = .int .i64 (i : Int) ∧ i ≤ n ∧ SH Nil w wr [.row B8 (.slice A (fillL i k (codeF k)).length cp) (fillL i k (codeF k)), .blk bm 38 (mxC ((n : Int), (k : Int), A, (fillL i k (codeF k)).length, cp)), .blk br 38 (mxC (0, 0, none, 0, 0))]
def relCe (n k i : Nat) (w : World) (bm br : Nat) (v8 : Value) (wr : World) : Prop := ∃ (j : Nat) (cur : List UInt8) (A : Option Addr) (cp : Nat), v8 = .int .i64 (j : Int) ∧ j ≤ k ∧ Hid (cur = fillL i k (codeF k) ++ (List.range j).map (codeF k i)) ∧ SH Nil w wr [.row B8 (.slice A cur.length cp) cur, .blk bm 38 (mxC ((n : Int), (k : Int), A, cur.length, cp)), .blk br 38 (mxC (0, 0, none, 0, 0))]
set_option maxHeartbeats 3200000 in
set_option maxRecDepth 100000 in
theorem rCode_ok (k n : Nat) (w : World) (h1 : 1 ≤ k) (h2 : k ≤ n) (h3 : n ≤ 32) : Calls Try.prog 27 #[.int .i64 (k : Int), .int .i64 (n : Int)] w fun e w' => GivesMx rxT w n k (fillL n k (codeF k)) 0 e w' := by
  have H0 := SH.start Nil w
  have d1 : decide ((k : Int) < 1) = false := by simp; omega
  have d2 : decide ((n : Int) < (k : Int)) = false := by simp; omega
  have d3 : decide ((32 : Int) < (n : Int)) = false := by simp; omega
  go_enter Try.func27, Try.ntmps27
  go_wp2_with (first
    | ((with_reducible refine gAlloc ?_); refine wVar rxT ((n : Int), (k : Int), none, 0, 0) H1 rfl 6 _ rfl rfl rfl rfl rfl ?_; clear H1; intro w2 H2)
    | ((with_reducible refine gAlloc ?_); refine wAlloc rxT H0 rfl rfl ?_; clear H0; intro w1 H1))
  go_loopw [7] (fun v7 wr => relCd n k w w1.heap.size w.heap.size v7 wr) (fun v _ => n - (intOf v).toNat)
  case atStart => exact ⟨0, none, 0, rfl, by omega, H2.nilRow B8⟩
  case round =>
    obtain ⟨i, A, cp, rfl, hi, HS⟩ := hrel
    clear H2
    by_cases hir : i < n
    · have hii : (i : Int) < (n : Int) := by omega
      go_wp2
      go_loopw [8] (fun v8 wr => relCe n k i w w1.heap.size w.heap.size v8 wr) (fun v _ => k - (intOf v).toNat)
      case atStart => exact ⟨0, _, A, cp, rfl, by omega, by simp [Hid], HS⟩
      case round =>
        obtain ⟨j, cur, A, cp, rfl, hj, HC, H⟩ := hrel
        by_cases hjc : j < k
        · have hji : (j : Int) < (k : Int) := by omega
          have hcl : cur.length ≤ 5000 := by
            rw [HC.out, List.length_append, fillL_len, List.length_map, List.length_range]
            have := Nat.mul_le_mul (show i ≤ 32 by omega) (show k ≤ 32 by omega)
            omega
          have HCL := Lib.hid hcl
          have hst : cur ++ [codeF k i j] = fillL i k (codeF k) ++ (List.range (j + 1)).map (codeF k i) := by rw [HC.out, List.range_succ, List.map_append, List.append_assoc]; rfl
          clear hcl
          by_cases hik : i < k
          · have hk1 : decide ((k : Int) ≤ (i : Int)) = false := by simp; omega
            have hk2 : ((k : Int) ≤ (i : Int)) = False := eq_false (by omega)
            by_cases hab : i = j
            · have e1 : ((i : Int) == (j : Int)) = true := beq_iff_eq.mpr (by omega)
              rw [codeF, if_pos hik, unitF, if_pos hab] at hst
              have HST := Lib.hid hst
              clear hst hab
              have k2 : World.cell? _ ⟨w1.heap.size, 2, none⟩ = some (.slice A cur.length cp) := (H.va 1 rfl).cell 2
              go_wp2_with (first
                | (at_builtin; refine wAppLit sB [1] #[.int .u8 1] rfl (by simp) 1 rfl H 0 rfl (by have := HCL.out; show (cur.length + 1) * 1 ≤ _; omega) _ _ rfl rfl rfl rfl ?_; clear H k2; intro v6 w6 H6; obtain ⟨A6, c6, rfl, hc6⟩ := (H6.rr 0 rfl).len)
                | ((with_reducible refine gStore ?_); refine wCell 22 (.slice A6 (cur.length + 1) c6) (by kernel_rfl) rfl rfl H6 1 (off := 2) rfl (Nat.le_refl 3) (mxC ((n : Int), (k : Int), A6, cur.length + 1, c6)) rfl _ _ rfl rfl rfl rfl ?_; clear H6; intro w7 H7; rw [show cur.length + 1 = (cur ++ [(1 : UInt8)]).length from by simp] at H7))
              go_roundw
              case rel => first | exact ⟨j + 1, _, _, _, by go_num, by omega, HST, H7⟩ | exact ⟨_, ⟨j + 1, _, _, _, by go_num, by omega, HST, H7⟩, rfl⟩
              case measure => simp [intOf] <;> omega
            · have e1 : ((i : Int) == (j : Int)) = false := beq_eq_false_iff_ne.mpr (by omega)
              rw [codeF, if_pos hik, unitF, if_neg hab] at hst
              have HST := Lib.hid hst
              clear hst hab
              have k2 : World.cell? _ ⟨w1.heap.size, 2, none⟩ = some (.slice A cur.length cp) := (H.va 1 rfl).cell 2
              go_wp2_with (first
                | (at_builtin; refine wAppLit sB [0] #[.int .u8 0] rfl (by simp) 1 rfl H 0 rfl (by have := HCL.out; show (cur.length + 1) * 1 ≤ _; omega) _ _ rfl rfl rfl rfl ?_; clear H k2; intro v6 w6 H6; obtain ⟨A6, c6, rfl, hc6⟩ := (H6.rr 0 rfl).len)
                | ((with_reducible refine gStore ?_); refine wCell 22 (.slice A6 (cur.length + 1) c6) (by kernel_rfl) rfl rfl H6 1 (off := 2) rfl (Nat.le_refl 3) (mxC ((n : Int), (k : Int), A6, cur.length + 1, c6)) rfl _ _ rfl rfl rfl rfl ?_; clear H6; intro w7 H7; rw [show cur.length + 1 = (cur ++ [(0 : UInt8)]).length from by simp] at H7))
              go_roundw
              case rel => first | exact ⟨j + 1, _, _, _, by go_num, by omega, HST, H7⟩ | exact ⟨_, ⟨j + 1, _, _, _, by go_num, by omega, HST, H7⟩, rfl⟩
              case measure => simp [intOf] <;> omega
          · have hk1 : decide ((k : Int) ≤ (i : Int)) = true := by simp; omega
            have hk2 : ((k : Int) ≤ (i : Int)) = True := eq_true (by omega)
            have e1 : ((i : Int) == (j : Int)) = false := beq_eq_false_iff_ne.mpr (by omega)
            obtain ⟨hx, hlt⟩ := xor_small i j (by omega) (by omega)
            have hw : IntKind.u8.wrap ((i ^^^ j : Nat) : Int) = ((UInt8.ofNat (i ^^^ j)).toNat : Int) := by
              rw [UInt8.toNat_ofNat', Nat.mod_eq_of_lt (by omega), IntKind.wrap_u8]; omega
            have cI : ∀ W, ∃ E, Calls Try.prog 57 #[.int .u8 ((UInt8.ofNat (i ^^^ j)).toNat : Int)] W fun e w' => e = .returned (.tuple #[.int .u8 ((codeF k i j).toNat : Int), .int .i64 E]) ∧ Below W.heap.size W w' := fun W => ⟨_, by rw [codeF, if_neg hik, finv0_eq]; exact RInverse_any _ W⟩
            generalize codeF k i j = x at cI hst
            generalize UInt8.ofNat (i ^^^ j) = y at *
            generalize i ^^^ j = z at *
            have HST := Lib.hid hst
            clear hst hlt
            go_wp2_with (first
              | (go_at_call 57; obtain ⟨E, hE⟩ := cI _; (with_reducible refine hE.mono ?_); rintro e w5 ⟨rfl, hb5⟩; have H5 := H.step hb5; clear H hb5; have k2 : w5.cell? ⟨w1.heap.size, 2, none⟩ = some (.slice A cur.length cp) := (H5.va 1 rfl).cell 2)
              | (at_builtin; refine wAppLit sB [x] #[.int .u8 (x.toNat : Int)] rfl (by simp) 1 rfl H5 0 rfl (by have := HCL.out; show (cur.length + 1) * 1 ≤ _; omega) _ _ rfl rfl rfl rfl ?_; clear H5 k2; intro v6 w6 H6; obtain ⟨A6, c6, rfl, hc6⟩ := (H6.rr 0 rfl).len)
              | ((with_reducible refine gStore ?_); refine wCell 22 (.slice A6 (cur.length + 1) c6) (by kernel_rfl) rfl rfl H6 1 (off := 2) rfl (Nat.le_refl 3) (mxC ((n : Int), (k : Int), A6, cur.length + 1, c6)) rfl _ _ rfl rfl rfl rfl ?_; clear H6; intro w7 H7; rw [show cur.length + 1 = (cur ++ [x]).length from by simp] at H7))
            go_roundw
            case rel => first | exact ⟨j + 1, _, _, _, by go_num, by omega, HST, H7⟩ | exact ⟨_, ⟨j + 1, _, _, _, by go_num, by omega, HST, H7⟩, rfl⟩
            case measure => simp [intOf] <;> omega
        · obtain rfl : j = k := by omega
          have hcur := HC.out
          rw [← fillL_succ] at hcur
          subst hcur
          clear HC
          go_wp2
          go_roundw
          case rel => first | exact ⟨i + 1, _, _, by go_num, by omega, H⟩ | exact ⟨_, ⟨i + 1, _, _, by go_num, by omega, H⟩, rfl⟩
          case measure => simp [intOf] <;> omega
    · obtain rfl : i = n := by omega
      go_wp2_with (first
        | ((with_reducible refine gLoad ?_); refine wLoad rxT ((i : Int), (k : Int), A, (fillL i k (codeF k)).length, cp) HS 1 rfl rfl _ rfl rfl rfl ?_)
        | ((with_reducible refine gStore ?_); refine wStore rxT ((i : Int), (k : Int), A, (fillL i k (codeF k)).length, cp) HS 2 rfl rfl _ _ rfl rfl rfl rfl ?_; clear HS; intro w5 H))
      refine bodyPost_ret (results_cell_tmp rfl _ (H.va 2 rfl) rfl _ Try.underlying38 rfl (rxT.sz _)) rfl ?_
      exact ⟨A, cp, rfl, H.orow 0 rfl, H.below⟩
theorem rCode_bad (k n : Int) (w : World) (h : k < 1 ∨ n < k ∨ 32 < n) : Calls Try.prog 27 #[.int .i64 k, .int .i64 n] w fun e w' => e = .returned (.tuple #[.agg (rxT.enc rxT.zero).toArray, .int .i64 1]) ∧ Below w.heap.size w w' := by
  have H0 := SH.start Nil w
  have hd : (decide (k < 1) = true) ∨ (decide (k < 1) = false ∧ decide (n < k) = true) ∨ (decide (k < 1) = false ∧ decide (n < k) = false ∧ decide (32 < n) = true) := by simp; omega
  clear h
  rcases hd with d1 | ⟨d1, d2⟩ | ⟨d1, d2, d3⟩
  all_goals
    go_enter Try.func27, Try.ntmps27
    go_wp2_with (first
      | ((with_reducible refine gAlloc ?_); refine wAlloc rxT H0 rfl rfl ?_; clear H0; intro w1 H1)
      | ((with_reducible refine gBuild ?_); refine wZero rxT rfl rfl ?_)
      | ((with_reducible refine gStore ?_); refine wStore rxT rxT.zero H1 0 rfl rfl _ _ rfl rfl rfl rfl ?_; clear H1; intro w5 H))
    refine bodyPost_ret (results_cell_tmp rfl _ (H.va 0 rfl) rfl _ Try.underlying38 rfl (rxT.sz _)) rfl ?_
    exact ⟨rfl, H.below⟩
end Go.Proofs.Ytfnneneaalaagaa
