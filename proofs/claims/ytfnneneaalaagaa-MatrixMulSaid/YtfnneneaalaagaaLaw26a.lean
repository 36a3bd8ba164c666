/- Layer 26: alive; small; same. -/
import Derived.Test.YtfnneneaalaagaaMx9
import Derived.Test.YtfnneneaalaagaaRef01b
namespace Go.Proofs.Ytfnneneaalaagaa
open Go.RowKit
set_option linter.unusedSimpArgs false
set_option linter.unusedVariables false

def smallB (r c : Int) (n : Nat) : Bool := decide ((n : Int) ≤ 64) && (decide (r ≤ 8) && decide (c ≤ 8))
set_option maxHeartbeats 800000 in
theorem small_any (r c : Int) (A : Option Addr) (n cp : Nat) (w : World) : Calls Try.prog 19 #[.agg (mxT.enc (r, c, A, n, cp)).toArray] w fun e w' => e = .returned (.bool (smallB r c n)) ∧ Below w.heap.size w w' := by
  have H0 := SH.start Nil w
  have hd : (decide ((n : Int) ≤ 64) = false ∧ smallB r c n = false) ∨ (decide ((n : Int) ≤ 64) = true ∧ decide (r ≤ 8) = false ∧ smallB r c n = false) ∨ (decide ((n : Int) ≤ 64) = true ∧ decide (r ≤ 8) = true ∧ smallB r c n = decide (c ≤ 8)) := by
    unfold smallB
    by_cases h1 : (n : Int) ≤ 64 <;> by_cases h2 : r ≤ 8 <;> simp [h1, h2]
  rcases hd with ⟨d1, hs⟩ | ⟨d1, d2, hs⟩ | ⟨d1, d2, hs⟩
  all_goals
    rw [hs]
    clear hs
    go_enter Try.func19, Try.ntmps19
    go_wp2_with (first
      | ((with_reducible refine gBox ?_); refine wBox mxT (r, c, A, n, cp) H0 _ rfl rfl rfl ?_; clear H0; intro w1 H1; have k0 : w1.cell? ⟨w.heap.size, 0, none⟩ = some (.int .i64 r) := (H1.va 0 rfl).cell 0; have k1 : w1.cell? ⟨w.heap.size, 1, none⟩ = some (.int .i64 c) := (H1.va 0 rfl).cell 1; have k2 : w1.cell? ⟨w.heap.size, 2, none⟩ = some (.slice A n cp) := (H1.va 0 rfl).cell 2))
    go_ret
    exact ⟨rfl, H1.below⟩
set_option maxHeartbeats 800000 in
theorem plain26_any (r c : Int) (A : Option Addr) (n cp : Nat) (w : World) : Calls Try.prog 23 #[.agg (mxT.enc (r, c, A, n, cp)).toArray] w fun e w' => e = .returned (.agg (rxT.enc (r, c, A, n, cp)).toArray) ∧ Below w.heap.size w w' := by
  have H0 := SH.start Nil w
  go_enter Try.func23, Try.ntmps23
  go_wp2_with (first
    | ((with_reducible refine gBox ?_); refine wBox mxT (r, c, A, n, cp) H0 _ rfl rfl rfl ?_; clear H0; intro w1 H1)
    | ((with_reducible refine gAlloc ?_); refine wAlloc rxT H1 rfl rfl ?_; clear H1; intro w2 H2; have k0 : w2.cell? ⟨w.heap.size, 0, none⟩ = some (.int .i64 r) := (H2.va 1 rfl).cell 0; have k1 : w2.cell? ⟨w.heap.size, 1, none⟩ = some (.int .i64 c) := (H2.va 1 rfl).cell 1; have k2 : w2.cell? ⟨w.heap.size, 2, none⟩ = some (.slice A n cp) := (H2.va 1 rfl).cell 2)
    | ((with_reducible refine gStore ?_); refine wStore rxT (r, c, A, n, cp) H2 0 rfl rfl _ _ rfl rfl rfl rfl ?_; clear H2; intro w3 H3))
  refine bodyPost_ret (results_cell rfl _ (H3.va 0 rfl) rfl _ Try.underlying38 rfl (rxT.sz _)) rfl ?_
  exact ⟨rfl, H3.below⟩
set_option maxHeartbeats 1600000 in
set_option maxRecDepth 100000 in
theorem Same_true (r c : Int) (A B : Option Addr) (n m cp cq : Nat) (l : List UInt8) (w : World) (ha : RB w (.slice A n cp) l) (hb : RB w (.slice B m cq) l) : Calls Try.prog 58 #[.agg (rxT.enc (r, c, A, n, cp)).toArray, .agg (rxT.enc (r, c, B, m, cq)).toArray] w fun e w' => e = .returned (.bool true) ∧ Below w.heap.size w w' := by
  have H0 := SH.start Nil w
  have HA := Lib.hid ha
  have HB := Lib.hid hb
  clear ha hb
  go_enter Try.func58, Try.ntmps58
  go_wp2_with (first
    | ((with_reducible refine gBox ?_); refine wBox rxT (r, c, A, n, cp) H0 (.tmp 0) rfl rfl rfl ?_; clear H0; intro w1 H1)
    | ((with_reducible refine gBox ?_); refine wBox rxT (r, c, B, m, cq) H1 (.tmp 1) rfl rfl rfl ?_; clear H1; intro w2 H2; have k0 : w2.cell? ⟨w.heap.size, 0, none⟩ = some (.int .i64 r) := (H2.va 1 rfl).cell 0; have k1 : w2.cell? ⟨w.heap.size, 1, none⟩ = some (.int .i64 c) := (H2.va 1 rfl).cell 1; have k2 : w2.cell? ⟨w.heap.size, 2, none⟩ = some (.slice A n cp) := (H2.va 1 rfl).cell 2; have j0 : w2.cell? ⟨w1.heap.size, 0, none⟩ = some (.int .i64 r) := (H2.va 0 rfl).cell 0; have j1 : w2.cell? ⟨w1.heap.size, 1, none⟩ = some (.int .i64 c) := (H2.va 0 rfl).cell 1; have j2 : w2.cell? ⟨w1.heap.size, 2, none⟩ = some (.slice B m cq) := (H2.va 0 rfl).cell 2; have s1 := strB (HA.out.below H2.below); have s2 := strB (HB.out.below H2.below)))
  go_ret
  exact ⟨rfl, H2.below⟩
set_option maxHeartbeats 1600000 in
set_option maxRecDepth 100000 in
theorem same_true (r c : Int) (A B : Option Addr) (n m cp cq : Nat) (l : List UInt8) (w : World) (ha : RB w (.slice A n cp) l) (hb : RB w (.slice B m cq) l) : Calls Try.prog 28 #[.agg (mxT.enc (r, c, A, n, cp)).toArray, .agg (rxT.enc (r, c, B, m, cq)).toArray] w fun e w' => e = .returned (.bool true) ∧ Below w.heap.size w w' := by
  have H0 := SH.start Nil w
  have cS := fun W h => Same_true r c A B n m cp cq l W (ha.below h) (hb.below h)
  have cP := fun W => plain26_any r c A n cp W
  have CS := Lib.hid cS
  have CP := Lib.hid cP
  clear cS cP ha hb
  go_enter Try.func28, Try.ntmps28
  go_wp2_with (first
    | ((with_reducible refine gBox ?_); refine wBox mxT (r, c, A, n, cp) H0 (.tmp 0) rfl rfl rfl ?_; clear H0; intro w1 H1)
    | ((with_reducible refine gBox ?_); refine wBox rxT (r, c, B, m, cq) H1 (.tmp 1) rfl rfl rfl ?_; clear H1; intro w2 H2))
  have H := H2.drew
  clear H2
  refine startE (none) (by kernel_rfl) ?_
  refine takeE 0 rfl (by kernel_rfl) (by kernel_rfl) (by kernel_rfl) (fun _ _ _ h => h) rfl (v := ?_) ?_ ?_
  rotate_left
  · intro w' hw'; refine Eq.trans (exec_load 32 _ rfl w.heap.size 0 rfl (mxT.enc (r, c, A, n, cp)) _ (VA.all ((H.va 1 rfl).below (grown_none hw'))) Try.underlying32 rfl (mxT.sz _)) ?_; with_reducible rfl
  (try simp only [Act.put, List.setIfInBounds_toArray, List.set_cons_zero, List.set_cons_succ])
  refine takeE 2 rfl (by kernel_rfl) (by kernel_rfl) (by kernel_rfl) (fun _ _ _ h => h) rfl (v := ?_) ?_ ?_
  rotate_left
  · intro w' hw'; refine Eq.trans (exec_load 38 _ rfl w1.heap.size 0 rfl (rxT.enc (r, c, B, m, cq)) _ (VA.all ((H.va 0 rfl).below (grown_none hw'))) Try.underlying38 rfl (rxT.sz _)) ?_; with_reducible rfl
  (try simp only [Act.put, List.setIfInBounds_toArray, List.set_cons_zero, List.set_cons_succ])
  refine stepE 1 rfl (by kernel_rfl) rfl (fun K hK => ?_)
  (go_simp; (with_reducible refine (CP.out _).mono ?_); rintro e w5 ⟨rfl, hb⟩; refine K_out hK hb ?_; clear K hK; replace H := H.step hb; clear hb)
  (try simp only [Act.put, List.setIfInBounds_toArray, List.set_cons_zero, List.set_cons_succ])
  refine stepE 3 rfl (by kernel_rfl) rfl (fun K hK => ?_)
  (go_simp; (with_reducible refine (CS.out _ H.below).mono ?_); rintro e w6 ⟨rfl, hb⟩; refine K_out hK hb ?_; clear K hK; replace H := H.step hb; clear hb)
  (try simp only [Act.put, List.setIfInBounds_toArray, List.set_cons_zero, List.set_cons_succ])
  refine takeE 4 rfl (by kernel_rfl) (by kernel_rfl) (by kernel_rfl) (fun _ _ _ h => h) rfl (v := ?_) ?_ ?_
  rotate_left
  · intro w' hw'; clear hw'; go_simp; (try with_reducible rfl)
  (try simp only [Act.put, List.setIfInBounds_toArray, List.set_cons_zero, List.set_cons_succ])
  refine doneE (by kernel_rfl) ?_
  go_wp2
  go_ret
  exact ⟨rfl, H.below⟩
set_option maxHeartbeats 1600000 in
set_option maxRecDepth 100000 in
theorem alive26_any (w : World) : Calls Try.prog 20 #[] w fun e w' => e = .returned (.bool true) ∧ Below w.heap.size w w' := by
  have f1 : fillL 2 1 (codeF 1) = [1, 1] := by decide +kernel
  have f2 : fillL 2 2 unitF = [1, 0, 0, 1] := by decide +kernel
  have f3 : rankI 2 2 [1, 0, 0, 1] = 2 := by decide +kernel
  have c1 : ∀ W, Calls Try.prog 26 #[.int .i64 1, .int .i64 2] W fun e w' => ∃ A cp, e = .returned (.tuple #[.agg (mxT.enc (2, 1, A, 2, cp)).toArray, .int .i64 0]) ∧ OB w' W.heap.size (.slice A 2 cp) [1, 1] ∧ Below W.heap.size W w' := fun W => by
    have := Code_ok 1 2 W (by omega) (by omega) (by omega)
    rw [f1] at this
    exact this
  have c2 : ∀ W, Calls Try.prog 24 #[.int .i64 2] W fun e w' => ∃ A cp, e = .returned (.tuple #[.agg (mxT.enc (2, 2, A, 4, cp)).toArray, .int .i64 0]) ∧ OB w' W.heap.size (.slice A 4 cp) [1, 0, 0, 1] ∧ Below W.heap.size W w' := fun W => by
    have := Unit_ok 2 W (by omega) (by omega)
    rw [f2] at this
    exact this
  have c3 := fun W => Unit_bad 0 W (by decide)
  have c4 : ∀ W A cp, RB W (.slice A 4 cp) [1, 0, 0, 1] → Calls Try.prog 31 #[.agg (mxT.enc (2, 2, A, 4, cp)).toArray] W fun e w' => e = .returned (.int .i64 2) ∧ Below W.heap.size W w' := fun W A cp h => by
    have := Rank_any 2 2 A cp [1, 0, 0, 1] W h (by simp)
    rw [f3] at this
    exact this
  have H0 := SH.start Nil w
  have C1 := Lib.hid c1
  have C2 := Lib.hid c2
  have C3 := Lib.hid c3
  have C4 := Lib.hid c4
  clear c1 c2 c3 c4 f1 f2 f3
  go_enter Try.func20, Try.ntmps20
  go_wp2_with (first
    | (go_at_call 26; (with_reducible refine (C1.out _).mono ?_); rintro e w1 ⟨A1, p1, rfl, ho, hb⟩; have H1 := H0.pushRow hb ho; clear H0 hb ho)
    | ((with_reducible refine gAlloc ?_); refine wVar mxT (2, 1, A1, 2, p1) H1 rfl 1 _ rfl rfl rfl rfl rfl ?_; clear H1; intro w2 H2)
    | (go_at_call 24; (with_reducible refine (C2.out _).mono ?_); rintro e w3 ⟨A2, p2, rfl, ho, hb⟩; have H3 := H2.pushRow hb ho; clear H2 hb ho)
    | ((with_reducible refine gAlloc ?_); refine wVar mxT (2, 2, A2, 4, p2) H3 rfl 3 _ rfl rfl rfl rfl rfl ?_; clear H3; intro w4 H4)
    | (go_at_call 24; (with_reducible refine (C3.out _).mono ?_); rintro e w5 ⟨rfl, hb⟩; have H5 := H4.step hb; clear H4 hb)
    | ((with_reducible refine gAlloc ?_); refine wVar mxT mxT.zero H5 rfl 5 _ rfl rfl rfl rfl rfl ?_; clear H5; intro w6 H6; have k2 : w6.cell? ⟨w1.heap.size, 2, none⟩ = some (.slice A1 2 p1) := (H6.va 3 rfl).cell 2; have j2 : w6.cell? ⟨w3.heap.size, 2, none⟩ = some (.slice A2 4 p2) := (H6.va 1 rfl).cell 2; have s1 := strB (H6.rr 4 rfl); have s2 := strB (H6.rr 2 rfl); have hr4 : RB w6 (.slice A2 4 p2) [1, 0, 0, 1] := H6.rr 2 rfl)
    | ((with_reducible refine gLoad ?_); refine wLoad mxT (2, 2, A2, 4, p2) H6 1 rfl rfl _ rfl rfl rfl ?_)
    | (go_at_call 31; (with_reducible refine (C4.out _ _ _ hr4).mono ?_); rintro e w7 ⟨rfl, hb⟩; have H7 := H6.step hb; clear H6 hb))
  go_ret
  exact ⟨rfl, H7.below⟩
end Go.Proofs.Ytfnneneaalaagaa
