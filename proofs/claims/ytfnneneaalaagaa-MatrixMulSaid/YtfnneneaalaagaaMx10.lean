/- Layer 26: the reference's units and codes. -/
import Derived.Test.YtfnneneaalaagaaMx3
import Derived.Test.YtfnneneaalaagaaRefF
namespace Go.Proofs.Ytfnneneaalaagaa
open Go.RowKit
set_option linter.unusedSimpArgs false
set_option linter.unusedVariables false

theorem fillL_flat (c : Nat) (f : Nat → Nat → UInt8) (hc : 0 < c) : ∀ r, fillL r c f = (List.range (r * c)).map fun i => f (i / c) (i % c)
  | 0 => by simp [fillL]
  | r + 1 => by
    rw [fillL_succ, fillL_flat c f hc r, Nat.add_mul, Nat.one_mul, List.range_add, List.map_append, List.map_map]
    congr 1
    refine List.map_congr_left fun j hj => ?_
    have hj' := List.mem_range.mp hj
    show f r j = f ((r * c + j) / c) ((r * c + j) % c)
    have e1 : (r * c + j) / c = r := by rw [Nat.mul_comm, Nat.mul_add_div hc, Nat.div_eq_of_lt hj', Nat.add_zero]
    have e2 : (r * c + j) % c = j := by rw [Nat.mul_comm, Nat.mul_add_mod, Nat.mod_eq_of_lt hj']
    rw [e1, e2]
def relU (n : Nat) (w : World) (bm br : Nat) (v5 : Value) (wr : World) : Prop := ∃ (i : Nat) (cur : List UInt8) (A : Option Addr) (cp : Nat), v5 = .int .i64 (i : Int) ∧ i ≤ n * n ∧ Hid (cur = (List.range i).map fun i => unitF (i / n) (i % n)) ∧ SH Nil w wr [.row B8 (.slice A cur.length cp) cur, .blk bm 38 (mxC ((n : Int), (n : Int), A, cur.length, cp)), .blk br 38 (mxC (0, 0, none, 0, 0))]
set_option maxHeartbeats 1600000 in
set_option maxRecDepth 100000 in
theorem rUnit_ok (n : Nat) (w : World) (h1 : 1 ≤ n) (h2 : n ≤ 32) : Calls Try.prog 25 #[.int .i64 (n : Int)] w fun e w' => GivesMx rxT w n n (fillL n n unitF) 0 e w' := by
  have H0 := SH.start Nil w
  have d1 : decide ((n : Int) < 1) = false := by simp; omega
  have d2 : decide ((32 : Int) < (n : Int)) = false := by simp; omega
  have hnn : n * n ≤ 32 * 32 := Nat.mul_le_mul h2 h2
  have hnI : (n : Int) * (n : Int) = ((n * n : Nat) : Int) := by push_cast; rfl
  have hni : (n : Int) ≤ 32 := by omega
  have hnp : (0 : Int) < (n : Int) := by omega
  have hnz : (n = 0) = False := eq_false (by omega)
  have HFL := Lib.hid (fillL_flat n unitF (by omega) n)
  obtain ⟨m, hm⟩ : ∃ m, m = n * n := ⟨_, rfl⟩
  rw [← hm] at hnI hnn
  have hmi : (m : Int) ≤ 1024 := by omega
  have HM := Lib.hid hm
  clear hm
  go_enter Try.func25, Try.ntmps25
  go_wp2_with (first
    | ((with_reducible refine gAlloc ?_); refine wVar rxT ((n : Int), (n : Int), none, 0, 0) H1 rfl 4 _ rfl rfl rfl rfl rfl ?_; clear H1; intro w2 H2)
    | ((with_reducible refine gAlloc ?_); refine wAlloc rxT H0 rfl rfl ?_; clear H0; intro w1 H1))
  go_loopw [5] (fun v5 wr => relU n w w1.heap.size w.heap.size v5 wr) (fun v _ => m - (intOf v).toNat)
  case atStart => exact ⟨0, [], none, 0, rfl, by omega, by rfl, H2.nilRow B8⟩
  case round =>
    obtain ⟨i, cur, A, cp, rfl, hi, HC, HS⟩ := hrel
    rw [← HM.out] at hi
    clear H2
    by_cases him : i < m
    · have hii : (i : Int) < (m : Int) := by omega
      have hcl : cur.length ≤ 2000 := by rw [HC.out, List.length_map, List.length_range]; omega
      have hst : cur ++ [unitF (i / n) (i % n)] = (List.range (i + 1)).map fun i => unitF (i / n) (i % n) := by rw [HC.out, List.range_succ, List.map_append]; rfl
      have hq : (i : Int) / (n : Int) = ((i / n : Nat) : Int) := by push_cast; rfl
      have hr : (i : Int) % (n : Int) = ((i % n : Nat) : Int) := by push_cast; rfl
      have hu : unitF (i / n) (i % n) = if i / n = i % n then 1 else 0 := rfl
      have hbq : ((i / n : Nat) : Int) ≤ 1024 := by have := Nat.div_le_self i n; omega
      have hbr : ((i % n : Nat) : Int) ≤ 1024 := by have := Nat.mod_le i n; omega
      have hrt : (i : Int).tmod (n : Int) = ((i % n : Nat) : Int) := by rw [Int.tmod_eq_emod_of_nonneg (by omega)]; exact hr
      generalize unitF (i / n) (i % n) = x at hst hu
      generalize i / n = a at *
      generalize i % n = b at *
      have hwa : IntKind.i64.wrap (a : Int) = (a : Int) := by rw [IntKind.wrap_i64]; omega
      have hwb : IntKind.i64.wrap (b : Int) = (b : Int) := by rw [IntKind.wrap_i64]; omega
      have HST := Lib.hid hst
      have HCL := Lib.hid hcl
      have H := HS.drew
      clear hst hcl HS
      by_cases hab : a = b
      · have e1 : ((a : Int) == (b : Int)) = true := beq_iff_eq.mpr (by omega)
        rw [if_pos hab] at hu
        subst hu
        clear hab
        go_wp2
        refine startS (fun _ => True) (by kernel_rfl) trivial ?_
        refine takeS 0 trivial rfl (by kernel_rfl) (by kernel_rfl) (by kernel_rfl) (fun _ _ _ h => h) rfl (v := ?_) ?_ ?_
        rotate_left
        · intro w' hw'; clear hw'; go_simp; (try with_reducible rfl)
        (try simp only [Act.put, List.setIfInBounds_toArray, List.set_cons_zero, List.set_cons_succ])
        refine takeS 1 trivial rfl (by kernel_rfl) (by kernel_rfl) (by kernel_rfl) (fun _ _ _ h => h) rfl (v := ?_) ?_ ?_
        rotate_left
        · intro w' hw'; clear hw'; go_simp; (try with_reducible rfl)
        (try simp only [Act.put, List.setIfInBounds_toArray, List.set_cons_zero, List.set_cons_succ])
        refine takeS 2 trivial rfl (by kernel_rfl) (by kernel_rfl) (by kernel_rfl) (fun _ _ _ h => h) rfl (v := ?_) ?_ ?_
        rotate_left
        · intro w' hw'; clear hw'; go_simp; (try with_reducible rfl)
        (try simp only [Act.put, List.setIfInBounds_toArray, List.set_cons_zero, List.set_cons_succ])
        refine takeS 3 trivial rfl (by kernel_rfl) (by kernel_rfl) (by kernel_rfl) (fun _ _ _ h => h) rfl (v := ?_) ?_ ?_
        rotate_left
        · intro w' hw'; clear hw'; go_simp; (try with_reducible rfl)
        (try simp only [Act.put, List.setIfInBounds_toArray, List.set_cons_zero, List.set_cons_succ])
        refine takeS 4 trivial rfl (by kernel_rfl) (by kernel_rfl) (by kernel_rfl) (fun _ _ _ h => h) rfl (v := ?_) ?_ ?_
        rotate_left
        · intro w' hw'; clear hw'; go_simp; (try with_reducible rfl)
        (try simp only [Act.put, List.setIfInBounds_toArray, List.set_cons_zero, List.set_cons_succ])
        refine takeS 5 trivial rfl (by kernel_rfl) (by kernel_rfl) (by kernel_rfl) (fun _ _ _ h => h) rfl (v := ?_) ?_ ?_
        rotate_left
        · intro w' hw'; clear hw'; go_simp; (try with_reducible rfl)
        (try simp only [Act.put, List.setIfInBounds_toArray, List.set_cons_zero, List.set_cons_succ])
        refine takeS 6 trivial rfl (by kernel_rfl) (by kernel_rfl) (by kernel_rfl) (fun _ _ _ h => h) rfl (v := ?_) ?_ ?_
        rotate_left
        · intro w' hw'; clear hw'; go_simp; (try with_reducible rfl)
        (try simp only [Act.put, List.setIfInBounds_toArray, List.set_cons_zero, List.set_cons_succ])
        refine doneS (by kernel_rfl) ?_
        have k2 : wr.drew.cell? ⟨w1.heap.size, 2, none⟩ = some (.slice A cur.length cp) := (H.va 1 rfl).cell 2
        go_wp2_with (first
          | (at_builtin; refine wAppLit sB [1] #[.int .u8 1] rfl (by simp) 1 rfl H 0 rfl (by have := HCL.out; show (cur.length + 1) * 1 ≤ _; omega) _ _ rfl rfl rfl rfl ?_; clear H k2; intro v6 w6 H6; obtain ⟨A6, c6, rfl, hc6⟩ := (H6.rr 0 rfl).len)
          | ((with_reducible refine gStore ?_); refine wCell 22 (.slice A6 (cur.length + 1) c6) (by kernel_rfl) rfl rfl H6 1 (off := 2) rfl (Nat.le_refl 3) (mxC ((n : Int), (n : Int), A6, cur.length + 1, c6)) rfl _ _ rfl rfl rfl rfl ?_; clear H6; intro w7 H7; rw [show cur.length + 1 = (cur ++ [(1 : UInt8)]).length from by simp] at H7))
        go_roundw
        case rel => first | exact ⟨i + 1, _, _, _, by go_num, by have := HM.out; omega, HST, H7⟩ | exact ⟨_, ⟨i + 1, _, _, _, by go_num, by have := HM.out; omega, HST, H7⟩, rfl⟩
        case measure => simp [intOf] <;> omega
      · have e1 : ((a : Int) == (b : Int)) = false := beq_eq_false_iff_ne.mpr (by omega)
        rw [if_neg hab] at hu
        subst hu
        clear hab
        go_wp2
        refine startS (fun _ => True) (by kernel_rfl) trivial ?_
        refine takeS 0 trivial rfl (by kernel_rfl) (by kernel_rfl) (by kernel_rfl) (fun _ _ _ h => h) rfl (v := ?_) ?_ ?_
        rotate_left
        · intro w' hw'; clear hw'; go_simp; (try with_reducible rfl)
        (try simp only [Act.put, List.setIfInBounds_toArray, List.set_cons_zero, List.set_cons_succ])
        refine takeS 1 trivial rfl (by kernel_rfl) (by kernel_rfl) (by kernel_rfl) (fun _ _ _ h => h) rfl (v := ?_) ?_ ?_
        rotate_left
        · intro w' hw'; clear hw'; go_simp; (try with_reducible rfl)
        (try simp only [Act.put, List.setIfInBounds_toArray, List.set_cons_zero, List.set_cons_succ])
        refine takeS 2 trivial rfl (by kernel_rfl) (by kernel_rfl) (by kernel_rfl) (fun _ _ _ h => h) rfl (v := ?_) ?_ ?_
        rotate_left
        · intro w' hw'; clear hw'; go_simp; (try with_reducible rfl)
        (try simp only [Act.put, List.setIfInBounds_toArray, List.set_cons_zero, List.set_cons_succ])
        refine takeS 3 trivial rfl (by kernel_rfl) (by kernel_rfl) (by kernel_rfl) (fun _ _ _ h => h) rfl (v := ?_) ?_ ?_
        rotate_left
        · intro w' hw'; clear hw'; go_simp; (try with_reducible rfl)
        (try simp only [Act.put, List.setIfInBounds_toArray, List.set_cons_zero, List.set_cons_succ])
        refine takeS 4 trivial rfl (by kernel_rfl) (by kernel_rfl) (by kernel_rfl) (fun _ _ _ h => h) rfl (v := ?_) ?_ ?_
        rotate_left
        · intro w' hw'; clear hw'; go_simp; (try with_reducible rfl)
        (try simp only [Act.put, List.setIfInBounds_toArray, List.set_cons_zero, List.set_cons_succ])
        refine takeS 5 trivial rfl (by kernel_rfl) (by kernel_rfl) (by kernel_rfl) (fun _ _ _ h => h) rfl (v := ?_) ?_ ?_
        rotate_left
        · intro w' hw'; clear hw'; go_simp; (try with_reducible rfl)
        (try simp only [Act.put, List.setIfInBounds_toArray, List.set_cons_zero, List.set_cons_succ])
        refine takeS 6 trivial rfl (by kernel_rfl) (by kernel_rfl) (by kernel_rfl) (fun _ _ _ h => h) rfl (v := ?_) ?_ ?_
        rotate_left
        · intro w' hw'; clear hw'; go_simp; (try with_reducible rfl)
        (try simp only [Act.put, List.setIfInBounds_toArray, List.set_cons_zero, List.set_cons_succ])
        refine doneS (by kernel_rfl) ?_
        have k2 : wr.drew.cell? ⟨w1.heap.size, 2, none⟩ = some (.slice A cur.length cp) := (H.va 1 rfl).cell 2
        go_wp2_with (first
          | (at_builtin; refine wAppLit sB [0] #[.int .u8 0] rfl (by simp) 1 rfl H 0 rfl (by have := HCL.out; show (cur.length + 1) * 1 ≤ _; omega) _ _ rfl rfl rfl rfl ?_; clear H k2; intro v6 w6 H6; obtain ⟨A6, c6, rfl, hc6⟩ := (H6.rr 0 rfl).len)
          | ((with_reducible refine gStore ?_); refine wCell 22 (.slice A6 (cur.length + 1) c6) (by kernel_rfl) rfl rfl H6 1 (off := 2) rfl (Nat.le_refl 3) (mxC ((n : Int), (n : Int), A6, cur.length + 1, c6)) rfl _ _ rfl rfl rfl rfl ?_; clear H6; intro w7 H7; rw [show cur.length + 1 = (cur ++ [(0 : UInt8)]).length from by simp] at H7))
        go_roundw
        case rel => first | exact ⟨i + 1, _, _, _, by go_num, by have := HM.out; omega, HST, H7⟩ | exact ⟨_, ⟨i + 1, _, _, _, by go_num, by have := HM.out; omega, HST, H7⟩, rfl⟩
        case measure => simp [intOf] <;> omega
    · obtain rfl : i = m := by omega
      have hcur := HC.out
      rw [HM.out, ← HFL.out] at hcur
      subst hcur
      clear HC
      go_wp2_with (first
        | ((with_reducible refine gLoad ?_); refine wLoad rxT ((n : Int), (n : Int), A, (fillL n n unitF).length, cp) HS 1 rfl rfl _ rfl rfl rfl ?_)
        | ((with_reducible refine gStore ?_); refine wStore rxT ((n : Int), (n : Int), A, (fillL n n unitF).length, cp) HS 2 rfl rfl _ _ rfl rfl rfl rfl ?_; clear HS; intro w5 H))
      refine bodyPost_ret (results_cell_tmp rfl _ (H.va 2 rfl) rfl _ Try.underlying38 rfl (rxT.sz _)) rfl ?_
      exact ⟨A, cp, rfl, H.orow 0 rfl, H.below⟩
theorem rUnit_bad (n : Int) (w : World) (h : sizeB n = false) : Calls Try.prog 25 #[.int .i64 n] w fun e w' => e = .returned (.tuple #[.agg (rxT.enc rxT.zero).toArray, .int .i64 1]) ∧ Below w.heap.size w w' := by
  have H0 := SH.start Nil w
  have hd : (decide (n < 1) = true) ∨ (decide (n < 1) = false ∧ decide (32 < n) = true) := by
    have h2 : ¬ (1 ≤ n ∧ n ≤ 32) := fun h3 => by rw [(sizeB_iff n).2 h3] at h; cases h
    simp only [decide_eq_true_eq, decide_eq_false_iff_not]; omega
  clear h
  rcases hd with d1 | ⟨d1, d2⟩
  all_goals
    go_enter Try.func25, Try.ntmps25
    go_wp2_with (first
      | ((with_reducible refine gAlloc ?_); refine wAlloc rxT H0 rfl rfl ?_; clear H0; intro w1 H1)
      | ((with_reducible refine gBuild ?_); refine wZero rxT rfl rfl ?_)
      | ((with_reducible refine gStore ?_); refine wStore rxT rxT.zero H1 0 rfl rfl _ _ rfl rfl rfl rfl ?_; clear H1; intro w5 H))
    refine bodyPost_ret (results_cell_tmp rfl _ (H.va 0 rfl) rfl _ Try.underlying38 rfl (rxT.sz _)) rfl ?_
    exact ⟨rfl, H.below⟩
end Go.Proofs.Ytfnneneaalaagaa
