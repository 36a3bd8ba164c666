/- Layer 26: units, codes. -/
import Derived.Test.YtfnneneaalaagaaMx2
import Derived.Test.YtfnneneaalaagaaField2
import Derived.Conc.MuLone
namespace Go.Proofs.Ytfnneneaalaagaa
open Go.RowKit
set_option linter.unusedSimpArgs false
set_option linter.unusedVariables false

def unitF (i j : Nat) : UInt8 := if i = j then 1 else 0
theorem unitF_int (i j : Nat) : (if (i : Int) = (j : Int) then (1 : UInt8) else 0) = unitF i j := by
  unfold unitF
  by_cases h : i = j
  · subst h; simp
  · rw [if_neg h, if_neg (by omega)]
/-- A matrix that is returned: its elements are a row of the call's own. -/
def GivesMx (T : AT Try.prog MX) (w : World) (r c : Nat) (l : List UInt8) (E : Int) (e : Ending) (w' : World) : Prop := ∃ A cp, e = .returned (.tuple #[.agg (T.enc ((r : Int), (c : Int), A, l.length, cp)).toArray, .int .i64 E]) ∧ OB w' w.heap.size (.slice A l.length cp) l ∧ Below w.heap.size w w'
theorem enter_unit : ∀ args W, (callFunc 54 args).run Try.prog W = .ok (.enter 54 args) W := fun args W => Go.MuLone.run_callFunc_enter Try.func54 (by kernel_rfl) rfl args W
set_option maxHeartbeats 800000 in
set_option maxRecDepth 100000 in
theorem Unit_ok (n : Nat) (w : World) (h1 : 1 ≤ n) (h2 : n ≤ 32) : Calls Try.prog 24 #[.int .i64 (n : Int)] w fun e w' => GivesMx mxT w n n (fillL n n unitF) 0 e w' := by
  have H0 := SH.start Nil w
  have hs : sizeB (n : Int) = true := (sizeB_iff _).2 (by omega)
  have cI : ∀ (x : Int) (W : World), Calls Try.prog 49 #[.int .i64 x] W fun e w' => e = .returned (.bool (sizeB x)) ∧ W = w' := isSize_any
  have cF := fun W => filled_any n n 54 #[] unitF W (by omega) (by omega) enter_unit (fun W2 hb i j hi hj => (unit_any i j W2).mono fun e w' ⟨h, h3⟩ => ⟨by rw [h, unitF_int], by subst h3; exact Below.refl _ _⟩)
  have hz := mxC_one
  go_enter Try.func24, Try.ntmps24
  go_wp2_with (first
    | ((with_reducible refine gAlloc ?_); refine wAlloc mxT H0 rfl rfl ?_; clear H0; intro w1 H1)
    | (go_at_call 49; (with_reducible refine (cI _ _).mono ?_); rintro e w2 ⟨rfl, rfl⟩)
    | (go_at_call 53; (with_reducible refine (cF _).mono ?_); rintro e w3 ⟨A, cp, rfl, ho, hb⟩; have H2 := H1.pushRow hb ho; clear H1 ho hb)
    | ((with_reducible refine gStore ?_); refine wStore mxT ((n : Int), (n : Int), A, (fillL n n unitF).length, cp) H2 1 rfl rfl _ _ rfl rfl rfl rfl ?_; clear H2; intro w5 H))
  refine bodyPost_ret (results_cell_tmp rfl _ (H.va 1 rfl) rfl _ Try.underlying32 rfl (mxT.sz _)) rfl ?_
  exact ⟨A, cp, rfl, H.orow 0 rfl, H.below⟩

theorem Unit_bad (n : Int) (w : World) (h : sizeB n = false) : Calls Try.prog 24 #[.int .i64 n] w fun e w' => e = .returned (.tuple #[.agg (mxT.enc mxT.zero).toArray, .int .i64 1]) ∧ Below w.heap.size w w' := by
  have H0 := SH.start Nil w
  have cI : ∀ (x : Int) (W : World), Calls Try.prog 49 #[.int .i64 x] W fun e w' => e = .returned (.bool (sizeB x)) ∧ W = w' := isSize_any
  go_enter Try.func24, Try.ntmps24
  go_wp2_with (first
    | ((with_reducible refine gAlloc ?_); refine wAlloc mxT H0 rfl rfl ?_; clear H0; intro w1 H1)
    | (go_at_call 49; (with_reducible refine (cI _ _).mono ?_); rintro e w2 ⟨rfl, rfl⟩)
    | ((with_reducible refine gBuild ?_); refine wZero mxT rfl rfl ?_)
    | ((with_reducible refine gStore ?_); refine wStore mxT mxT.zero H1 0 rfl rfl _ _ rfl rfl rfl rfl ?_; clear H1; intro w5 H))
  refine bodyPost_ret (results_cell_tmp rfl _ (H.va 0 rfl) rfl _ Try.underlying32 rfl (mxT.sz _)) rfl ?_
  exact ⟨rfl, H.below⟩

/-- An element of a code. -/
def finv0 (a : UInt8) : UInt8 := if a = 0 then 0 else finv a
def codeF (k i j : Nat) : UInt8 := if i < k then unitF i j else finv0 (UInt8.ofNat (i ^^^ j))
theorem xor_small (i j : Nat) (hi : i < 64) (hj : j < 64) : bits .xor .i64 (i : Int) (j : Int) = ((i ^^^ j : Nat) : Int) ∧ i ^^^ j < 64 := by
  have hx : i ^^^ j < 2 ^ 6 := Nat.xor_lt_two_pow hi hj
  have hi' : i % 2 ^ 64 = i := Nat.mod_eq_of_lt (by omega)
  have hj' : j % 2 ^ 64 = j := Nat.mod_eq_of_lt (by omega)
  refine ⟨?_, hx⟩
  have e : bits .xor .i64 (i : Int) (j : Int) = IntKind.i64.wrap (((BitVec.ofInt 64 i ^^^ BitVec.ofInt 64 j).toNat : Nat) : Int) := rfl
  rw [e]
  simp only [BitVec.ofInt_natCast, BitVec.toNat_xor, BitVec.toNat_ofNat, hi', hj']
  rw [IntKind.wrap_i64]
  omega
set_option maxHeartbeats 800000 in
set_option maxRecDepth 100000 in
theorem Code1_any (k i j b : Nat) (w : World) (hk : w.cell? ⟨b, 0, none⟩ = some (.int .i64 (k : Int))) (hi : i < 64) (hj : j < 64) : Calls Try.prog 55 #[.int .i64 (i : Int), .int .i64 (j : Int), .pointer (some ⟨b, 0, none⟩)] w fun e w' => e = .returned (.int .u8 ((codeF k i j).toNat : Int)) ∧ Below w.heap.size w w' := by
  by_cases h : i < k
  · have h' : (i : Int) < (k : Int) := by omega
    have cU : ∀ W, Calls Try.prog 54 #[.int .i64 (i : Int), .int .i64 (j : Int)] W fun e w' => e = .returned (.int .u8 ((codeF k i j).toNat : Int)) ∧ W = w' := fun W => (unit_any i j W).mono fun e w' ⟨h1, h2⟩ => ⟨by rw [h1, unitF_int, codeF, if_pos h], h2⟩
    generalize codeF k i j = x at *
    clear h
    go_enter Try.func55, Try.ntmps55
    go_wp2_with (first
      | (go_at_call 54; (with_reducible refine (cU _).mono ?_); rintro e w2 ⟨rfl, rfl⟩))
    go_ret
    exact ⟨rfl, Below.refl _ _⟩
  · have h' : (k : Int) ≤ (i : Int) := by omega
    obtain ⟨hx, hlt⟩ := xor_small i j hi hj
    have hw : IntKind.u8.wrap ((i ^^^ j : Nat) : Int) = ((UInt8.ofNat (i ^^^ j)).toNat : Int) := by
      rw [UInt8.toNat_ofNat', Nat.mod_eq_of_lt (by omega), IntKind.wrap_u8]; omega
    have cI : ∀ W, ∃ E, Calls Try.prog 56 #[.int .u8 ((UInt8.ofNat (i ^^^ j)).toNat : Int)] W fun e w' => e = .returned (.tuple #[.int .u8 ((codeF k i j).toNat : Int), .int .i64 E]) ∧ W = w' := fun W => ⟨_, (FInverse_any _ W).mono fun e w' ⟨h1, h2⟩ => ⟨by rw [h1, codeF, if_neg h, finv0], h2.symm⟩⟩
    generalize codeF k i j = x at *
    generalize UInt8.ofNat (i ^^^ j) = y at *
    generalize i ^^^ j = z at *
    clear h hlt
    go_enter Try.func55, Try.ntmps55
    go_wp2_with (first
      | (go_at_call 56; obtain ⟨E, hE⟩ := cI w; (with_reducible refine hE.mono ?_); rintro e w2 ⟨rfl, rfl⟩))
    go_ret
    exact ⟨rfl, Below.refl _ _⟩
theorem enter_code1 : ∀ args W, (callFunc 55 args).run Try.prog W = .ok (.enter 55 args) W := fun args W => Go.MuLone.run_callFunc_enter Try.func55 (by kernel_rfl) rfl args W
set_option maxHeartbeats 800000 in
set_option maxRecDepth 100000 in
theorem Code_ok (k n : Nat) (w : World) (h1 : 1 ≤ k) (h2 : k ≤ n) (h3 : n ≤ 32) : Calls Try.prog 26 #[.int .i64 (k : Int), .int .i64 (n : Int)] w fun e w' => GivesMx mxT w n k (fillL n k (codeF k)) 0 e w' := by
  have H0 := SH.start Nil w
  have d1 : decide ((k : Int) < 1) = false := by simp; omega
  have d2 : decide ((n : Int) < (k : Int)) = false := by simp; omega
  have d3 : decide ((32 : Int) < (n : Int)) = false := by simp; omega
  have cF : ∀ (W : World) (b : Nat), W.cell? ⟨b, 0, none⟩ = some (.int .i64 (k : Int)) → _ := fun W b hb => filled_any n k 55 #[.pointer (some ⟨b, 0, none⟩)] (codeF k) W (by omega) (by omega) enter_code1 (fun W2 h2 i j hi hj => Code1_any k i j b W2 (cell_below h2 hb) (by omega) (by omega))
  have CF := Lib.hid cF
  clear cF
  go_enter Try.func26, Try.ntmps26
  go_wp2_with (first
    | ((with_reducible refine gBox ?_); refine wBox1 3 (.int .i64 (k : Int)) rfl H0 _ rfl rfl rfl ?_; clear H0; intro w1 H1)
    | ((with_reducible refine gAlloc ?_); refine wAlloc mxT H1 rfl rfl ?_; clear H1; intro w2 H2; have kc : w2.cell? ⟨w.heap.size, 0, none⟩ = some (.int .i64 (k : Int)) := (H2.va 1 rfl).cell 0)
    | (go_at_call 53; (with_reducible refine (CF.out _ _ kc).mono ?_); rintro e w3 ⟨A, cp, rfl, ho, hb⟩; have H3 := H2.pushRow hb ho; clear H2 ho hb)
    | ((with_reducible refine gStore ?_); refine wStore mxT ((n : Int), (k : Int), A, (fillL n k (codeF k)).length, cp) H3 1 rfl rfl _ _ rfl rfl rfl rfl ?_; clear H3; intro w5 H))
  refine bodyPost_ret (results_cell_tmp rfl _ (H.va 1 rfl) rfl _ Try.underlying32 rfl (mxT.sz _)) rfl ?_
  exact ⟨A, cp, rfl, H.orow 0 rfl, H.below⟩
set_option maxHeartbeats 800000 in
set_option maxRecDepth 100000 in
theorem Code_bad (k n : Int) (w : World) (h : k < 1 ∨ n < k ∨ 32 < n) : Calls Try.prog 26 #[.int .i64 k, .int .i64 n] w fun e w' => e = .returned (.tuple #[.agg (mxT.enc mxT.zero).toArray, .int .i64 1]) ∧ Below w.heap.size w w' := by
  have H0 := SH.start Nil w
  have hd : (decide (k < 1) = true) ∨ (decide (k < 1) = false ∧ decide (n < k) = true) ∨ (decide (k < 1) = false ∧ decide (n < k) = false ∧ decide (32 < n) = true) := by simp; omega
  clear h
  rcases hd with d1 | ⟨d1, d2⟩ | ⟨d1, d2, d3⟩
  all_goals
    go_enter Try.func26, Try.ntmps26
    go_wp2_with (first
      | ((with_reducible refine gBox ?_); refine wBox1 3 (.int .i64 k) rfl H0 _ rfl rfl rfl ?_; clear H0; intro w1 H1)
      | ((with_reducible refine gAlloc ?_); refine wAlloc mxT H1 rfl rfl ?_; clear H1; intro w2 H2; have kc : w2.cell? ⟨w.heap.size, 0, none⟩ = some (.int .i64 k) := (H2.va 1 rfl).cell 0)
      | ((with_reducible refine gBuild ?_); refine wZero mxT rfl rfl ?_)
      | ((with_reducible refine gStore ?_); refine wStore mxT mxT.zero H2 0 rfl rfl _ _ rfl rfl rfl rfl ?_; clear H2; intro w5 H))
    refine bodyPost_ret (results_cell_tmp rfl _ (H.va 0 rfl) rfl _ Try.underlying32 rfl (mxT.sz _)) rfl ?_
    exact ⟨rfl, H.below⟩
end Go.Proofs.Ytfnneneaalaagaa
