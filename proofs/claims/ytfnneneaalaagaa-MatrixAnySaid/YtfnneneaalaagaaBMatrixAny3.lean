/- Ground of the statement MatrixAny, part 3: Mx16, FieldRef, RefF, Mx10, RefF2, Mx11, Mx8, Num, Mx9, Num2, Num3, Num4, Ref01, Ref01b, Law26a, Mx17, Mx21, Mx22, Mx23. -/
import Derived.Deep.OwnRows
import Derived.StillTailTactics
import Derived.Test.YtfnneneaalaagaaBMatrixAny2
namespace Go.Proofs.Ytfnneneaalaagaa
set_option maxRecDepth 100000
open Go.RowKit
set_option linter.unusedSimpArgs false
set_option linter.unusedVariables false

set_option maxHeartbeats 1600000 in
set_option maxRecDepth 100000 in
theorem Pick_bad (r c : Int) (n : Nat) (A0 : Option Addr) (cp0 : Nat) (vr : Value) (rs : List Int) (w : World) (hvr : RI w vr rs)
    (hbad : mayB r c n = false ∨ (mayB r c n = true ∧ sizeB (rs.length : Int) = false) ∨ (mayB r c n = true ∧ sizeB (rs.length : Int) = true ∧ rs.any (badRow r) = true)) :
    Calls Try.prog 21 #[.agg (mxT.enc (r, c, A0, n, cp0)).toArray, vr] w fun e w' => e = .returned (.tuple #[.agg (mxT.enc mxT.zero).toArray, .int .i64 1]) ∧ Below w.heap.size w w' := by
  have H0 := SH.start Nil w
  have cM : ∀ W, Calls Try.prog 37 #[.agg (mxT.enc (r, c, A0, n, cp0)).toArray] W fun e w' => e = .returned (.bool (mayB r c n)) ∧ Below W.heap.size W w' := fun W => MMay_any _ _ _ _ _ W
  have cS : ∀ W, Calls Try.prog 49 #[.int .i64 (rs.length : Int)] W fun e w' => e = .returned (.bool (sizeB (rs.length : Int))) ∧ W = w' := fun W => isSize_any _ W
  have cC : sizeB (rs.length : Int) = true → ∀ W b, W.cell? ⟨b, 0, none⟩ = some (.int .i64 r) → RI W vr rs → Calls Try.prog 50 #[vr, fnV 48 #[.pointer (some ⟨b, 0, none⟩)]] W fun e w' => e = .returned (.bool (rs.any (badRow r))) ∧ W = w' := fun hs W b hb hW => contains_any _ b vr rs W hb hW (by have := (sizeB_iff _).1 hs; omega)
  obtain ⟨Ar, cr, hvre, -⟩ := id hvr
  have HRI := Lib.hid hvr
  have HC := Lib.hid cC
  clear cC hvr
  subst hvre
  rcases hbad with h1 | ⟨h1, h2⟩ | ⟨h1, h2, h3⟩
  · rw [h1] at cM
    clear h1
    go_enter Try.func21, Try.ntmps21
    go_wp2_with (first
      | ((with_reducible refine gBox ?_); refine wBox mxT (r, c, A0, n, cp0) H0 _ rfl rfl rfl ?_; clear H0; intro w1 H1)
      | ((with_reducible refine gAlloc ?_); refine wAlloc mxT H1 rfl rfl ?_; clear H1; intro w2 H2)
      | ((with_reducible refine gLoad ?_); refine wLoad mxT (r, c, A0, n, cp0) H2 1 rfl rfl _ rfl rfl rfl ?_)
      | (go_at_call 37; (with_reducible refine (cM _).mono ?_); rintro e w3 ⟨rfl, hb⟩; have H3 := H2.step hb; clear H2 hb)
      | ((with_reducible refine gBuild ?_); refine wZero mxT rfl rfl ?_)
      | ((with_reducible refine gStore ?_); refine wStore mxT mxT.zero H3 0 rfl rfl _ _ rfl rfl rfl rfl ?_; clear H3; intro w5 H))
    refine bodyPost_ret (results_cell_tmp rfl _ (H.va 0 rfl) rfl _ Try.underlying32 rfl (mxT.sz _)) rfl ?_
    exact ⟨rfl, H.below⟩
  · rw [h1] at cM
    rw [h2] at cS
    clear h1 h2
    go_enter Try.func21, Try.ntmps21
    go_wp2_with (first
      | ((with_reducible refine gBox ?_); refine wBox mxT (r, c, A0, n, cp0) H0 _ rfl rfl rfl ?_; clear H0; intro w1 H1)
      | ((with_reducible refine gAlloc ?_); refine wAlloc mxT H1 rfl rfl ?_; clear H1; intro w2 H2)
      | ((with_reducible refine gLoad ?_); refine wLoad mxT (r, c, A0, n, cp0) H2 1 rfl rfl _ rfl rfl rfl ?_)
      | (go_at_call 37; (with_reducible refine (cM _).mono ?_); rintro e w3 ⟨rfl, hb⟩; have H3 := H2.step hb; clear H2 hb)
      | (go_at_call 49; (with_reducible refine (cS _).mono ?_); rintro e w5 ⟨rfl, rfl⟩)
      | ((with_reducible refine gBuild ?_); refine wZero mxT rfl rfl ?_)
      | ((with_reducible refine gStore ?_); refine wStore mxT mxT.zero H3 0 rfl rfl _ _ rfl rfl rfl rfl ?_; clear H3; intro w5 H))
    refine bodyPost_ret (results_cell_tmp rfl _ (H.va 0 rfl) rfl _ Try.underlying32 rfl (mxT.sz _)) rfl ?_
    exact ⟨rfl, H.below⟩
  · have HC2 := Lib.hid (HC.out h2)
    rw [h3] at HC2
    rw [h1] at cM
    rw [h2] at cS
    clear h1 h2 h3 HC
    go_enter Try.func21, Try.ntmps21
    go_wp2_with (first
      | ((with_reducible refine gBox ?_); refine wBox mxT (r, c, A0, n, cp0) H0 _ rfl rfl rfl ?_; clear H0; intro w1 H1)
      | ((with_reducible refine gAlloc ?_); refine wAlloc mxT H1 rfl rfl ?_; clear H1; intro w2 H2)
      | ((with_reducible refine gLoad ?_); refine wLoad mxT (r, c, A0, n, cp0) H2 1 rfl rfl _ rfl rfl rfl ?_)
      | (go_at_call 37; (with_reducible refine (cM _).mono ?_); rintro e w3 ⟨rfl, hb⟩; have H3 := H2.step hb; clear H2 hb; have k0 : w3.cell? ⟨w.heap.size, 0, none⟩ = some (.int .i64 r) := (H3.va 1 rfl).cell 0)
      | (go_at_call 49; (with_reducible refine (cS _).mono ?_); rintro e w5 ⟨rfl, rfl⟩)
      | (go_at_call 50; (with_reducible refine (HC2.out _ _ k0 (HRI.out.below H3.below)).mono ?_); rintro e w5 ⟨rfl, rfl⟩)
      | ((with_reducible refine gBuild ?_); refine wZero mxT rfl rfl ?_)
      | ((with_reducible refine gStore ?_); refine wStore mxT mxT.zero H3 0 rfl rfl _ _ rfl rfl rfl rfl ?_; clear H3; intro w5 H))
    refine bodyPost_ret (results_cell_tmp rfl _ (H.va 0 rfl) rfl _ Try.underlying32 rfl (mxT.sz _)) rfl ?_
    exact ⟨rfl, H.below⟩
set_option maxHeartbeats 1600000 in
set_option maxRecDepth 100000 in
theorem rPick_bad (r c : Int) (n : Nat) (A0 : Option Addr) (cp0 : Nat) (vr : Value) (rs : List Int) (w : World) (hvr : RI w vr rs)
    (hbad : mayB r c n = false ∨ (mayB r c n = true ∧ sizeB (rs.length : Int) = false)) :
    Calls Try.prog 22 #[.agg (rxT.enc (r, c, A0, n, cp0)).toArray, vr] w fun e w' => e = .returned (.tuple #[.agg (rxT.enc rxT.zero).toArray, .int .i64 1]) ∧ Below w.heap.size w w' := by
  have H0 := SH.start Nil w
  have cM : ∀ W, Calls Try.prog 38 #[.agg (rxT.enc (r, c, A0, n, cp0)).toArray] W fun e w' => e = .returned (.bool (mayB r c n)) ∧ Below W.heap.size W w' := fun W => rMay_any _ _ _ _ _ W
  obtain ⟨Ar, cr, hvre, -⟩ := id hvr
  clear hvr
  subst hvre
  have hd : mayB r c n = false ∨ (mayB r c n = true ∧ decide ((rs.length : Int) < 1) = true) ∨ (mayB r c n = true ∧ decide ((rs.length : Int) < 1) = false ∧ decide ((32 : Int) < (rs.length : Int)) = true) := by
    rcases hbad with h | ⟨h, h2⟩
    · exact .inl h
    · right
      have h3 : ¬ (1 ≤ (rs.length : Int) ∧ (rs.length : Int) ≤ 32) := fun h4 => by rw [(sizeB_iff _).2 h4] at h2; cases h2
      simp only [h, true_and, decide_eq_true_eq, decide_eq_false_iff_not]
      omega
  clear hbad
  generalize (rs.length) = k at *
  rcases hd with h1 | ⟨h1, d1⟩ | ⟨h1, d1, d2⟩
  all_goals
    rw [h1] at cM
    clear h1
    go_enter Try.func22, Try.ntmps22
    go_wp2_with (first
      | ((with_reducible refine gBox ?_); refine wBox rxT (r, c, A0, n, cp0) H0 _ rfl rfl rfl ?_; clear H0; intro w1 H1)
      | ((with_reducible refine gAlloc ?_); refine wAlloc rxT H1 rfl rfl ?_; clear H1; intro w2 H2)
      | ((with_reducible refine gLoad ?_); refine wLoad rxT (r, c, A0, n, cp0) H2 1 rfl rfl _ rfl rfl rfl ?_)
      | (go_at_call 38; (with_reducible refine (cM _).mono ?_); rintro e w3 ⟨rfl, hb⟩; have H3 := H2.step hb; clear H2 hb)
      | ((with_reducible refine gBuild ?_); refine wZero rxT rfl rfl ?_)
      | ((with_reducible refine gStore ?_); refine wStore rxT rxT.zero H3 0 rfl rfl _ _ rfl rfl rfl rfl ?_; clear H3; intro w5 H))
    refine bodyPost_ret (results_cell_tmp rfl _ (H.va 0 rfl) rfl _ Try.underlying38 rfl (rxT.sz _)) rfl ?_
    exact ⟨rfl, H.below⟩
theorem Pick_main (l : List UInt8) (r c n : Nat) (A0 : Option Addr) (cp0 : Nat) (vr : Value) (rs : List Int) (w : World) (hr1 : 1 ≤ r) (hr2 : r ≤ 32) (hc1 : 1 ≤ c) (hc2 : c ≤ 32) (hn : n = r * c) (hl : l.length = n) (hv : RB w (.slice A0 n cp0) l) (hcp : n ≤ cp0)
    (hvr : RI w vr rs) (hs1 : 1 ≤ rs.length) (hs2 : rs.length ≤ 32) :
    Calls Try.prog 21 #[.agg (mxT.enc ((r : Int), (c : Int), A0, n, cp0)).toArray, vr] w fun e w' => PickPost mxT w l r c rs e w' := by
  cases hb : rs.any (badRow (r : Int)) with
  | false => exact (Pick_ok l r c n A0 cp0 vr rs w hr1 hr2 hc1 hc2 hn hl hv hcp hvr hs1 hs2 hb).mono fun e w' h => .inl ⟨hb, h⟩
  | true =>
    have hmay : mayB (r : Int) (c : Int) n = true := by
      rw [mayB, if_pos ((sizeB_iff _).2 (by omega)), if_pos ((sizeB_iff _).2 (by omega)), hn]
      exact beq_iff_eq.mpr (by push_cast; rfl)
    exact (Pick_bad r c n A0 cp0 vr rs w hvr (.inr (.inr ⟨hmay, (sizeB_iff _).2 (by omega), hb⟩))).mono fun e w' h => .inr ⟨hb, h⟩
end Go.Proofs.Ytfnneneaalaagaa

namespace Go.Proofs.Ytfnneneaalaagaa
set_option maxRecDepth 100000

theorem nxor4 (a b c d : Nat) : (a ^^^ b) ^^^ (c ^^^ d) = (a ^^^ c) ^^^ (b ^^^ d) := by
  rw [Nat.xor_assoc, Nat.xor_assoc, ← Nat.xor_assoc b, Nat.xor_comm b c, Nat.xor_assoc c]
theorem mul_two_pow_xor (a b i : Nat) : (a ^^^ b) * 2 ^ i = a * 2 ^ i ^^^ b * 2 ^ i := by
  have := @Nat.shiftLeft_xor_distrib i a b
  simpa [Nat.shiftLeft_eq] using this

/-- The sum of what a's bits below i bring of b. -/
def cl (a b : Nat) : Nat → Nat
  | 0 => 0
  | i + 1 => cl a b i ^^^ (if a.testBit i then b * 2 ^ i else 0)
/-- One step of dividing out. -/
def rdStep (i N : Nat) : Nat := if N.testBit i then N ^^^ 285 * 2 ^ (i - 8) else N
def rdF : Nat → Nat → Nat
  | 0, N => N
  | k + 1, N => rdF k (rdStep (8 + k) N)

theorem cl_add_right (a x y i : Nat) : cl a (x ^^^ y) i = cl a x i ^^^ cl a y i := by
  induction i with
  | zero => simp [cl]
  | succ i ih =>
    rw [cl, cl, cl, ih, nxor4]
    congr 1
    split
    · exact mul_two_pow_xor x y i
    · simp
theorem cl_add_left (b x y i : Nat) : cl (x ^^^ y) b i = cl x b i ^^^ cl y b i := by
  induction i with
  | zero => simp [cl]
  | succ i ih =>
    rw [cl, cl, cl, ih, nxor4]
    congr 1
    rw [Nat.testBit_xor]
    cases x.testBit i <;> cases y.testBit i <;> simp
theorem rdStep_add (i x y : Nat) : rdStep i (x ^^^ y) = rdStep i x ^^^ rdStep i y := by
  unfold rdStep
  rw [Nat.testBit_xor]
  generalize 285 * 2 ^ (i - 8) = m
  cases x.testBit i <;> cases y.testBit i <;> simp
  · rw [Nat.xor_assoc]
  · rw [Nat.xor_assoc, Nat.xor_assoc, Nat.xor_comm y m]
  · rw [nxor4]; simp
theorem rdF_add (k : Nat) : ∀ x y, rdF k (x ^^^ y) = rdF k x ^^^ rdF k y := by
  induction k with
  | zero => intro x y; rfl
  | succ k ih => intro x y; rw [rdF, rdF, rdF, rdStep_add, ih]

/-- The reference's product. -/
def rmul (a b : UInt8) : UInt8 := UInt8.ofNat (rdF 8 (cl a.toNat b.toNat 8))
theorem rmul_eq (a b : UInt8) : rmul a b = fmul a b := by
  have hl : ∀ b, Additive (fun a => rmul a b) := fun b x y => by
    show UInt8.ofNat (rdF 8 (cl (x ^^^ y).toNat b.toNat 8)) = _
    rw [UInt8.toNat_xor, cl_add_left, rdF_add, UInt8.ofNat_xor]
    rfl
  have hr : ∀ a, Additive (fun b => rmul a b) := fun a x y => by
    show UInt8.ofNat (rdF 8 (cl a.toNat (x ^^^ y).toNat 8)) = _
    rw [UInt8.toNat_xor, cl_add_right, rdF_add, UInt8.ofNat_xor]
    rfl
  refine add_ext' (f := fun a => rmul a b) (g := fun a => fmul a b) (hl b) (fmul_add_left b) (fun p hp => ?_) a
  refine add_ext' (f := fun b => rmul p b) (g := fun b => fmul p b) (hr p) (fmul_add_right p) (fun q hq => ?_) b
  have : ∀ p ∈ pow2s, ∀ q ∈ pow2s, rmul p q = fmul p q := by decide +kernel
  exact this p hp q hq

/-- A number's bits as cells. -/
def bit1 (N t : Nat) : Int := if N.testBit t then 1 else 0
def bitL (N : Nat) : List Int := (List.range 16).map (bit1 N)
theorem bitL_length (N : Nat) : (bitL N).length = 16 := by simp [bitL]
theorem bitL_get (N t : Nat) (h : t < 16) : (bitL N)[t]? = some (bit1 N t) := by simp [bitL, h]
theorem bitL_flip (N t : Nat) (h : t < 16) : (bitL N).set t (1 - bit1 N t) = bitL (N ^^^ 2 ^ t) := by
  apply List.ext_getElem?
  intro j
  rw [List.getElem?_set]
  by_cases hj : t = j
  · subst hj
    rw [if_pos rfl, bitL_length, if_pos h, bitL_get _ _ h]
    unfold bit1
    rw [Nat.testBit_xor, Nat.testBit_two_pow_self]
    cases N.testBit t <;> simp
  · rw [if_neg hj]
    by_cases hj2 : j < 16
    · rw [bitL_get _ _ hj2, bitL_get _ _ hj2]
      unfold bit1
      rw [Nat.testBit_xor, Nat.testBit_two_pow_of_ne hj]
      simp
    · rw [List.getElem?_eq_none (by rw [bitL_length]; omega), List.getElem?_eq_none (by rw [bitL_length]; omega)]

/-- What the inner loop has brought behind j rounds. -/
def clIn (a b i j : Nat) : Nat := cl a b i ^^^ (if a.testBit i then (b % 2 ^ j) * 2 ^ i else 0)
theorem clIn_zero (a b i : Nat) : clIn a b i 0 = cl a b i := by unfold clIn; simp [Nat.mod_one]
theorem clIn_all (a b i : Nat) (hb : b < 256) : clIn a b i 8 = cl a b (i + 1) := by
  unfold clIn
  rw [cl, Nat.mod_eq_of_lt (by omega : b < 2 ^ 8)]
theorem mod_two_pow_succ_xor (b j : Nat) : b % 2 ^ (j + 1) = b % 2 ^ j ^^^ (if b.testBit j then 2 ^ j else 0) := by
  apply Nat.eq_of_testBit_eq
  intro t
  rw [Nat.testBit_xor, Nat.testBit_mod_two_pow, Nat.testBit_mod_two_pow]
  by_cases h1 : t < j
  · have : ((if b.testBit j then 2 ^ j else 0) : Nat).testBit t = false := by
      split
      · exact Nat.testBit_two_pow_of_ne (by omega)
      · simp
    rw [this]; simp [h1, (by omega : t < j + 1)]
  · by_cases h2 : t = j
    · subst h2
      cases hb : b.testBit t
      · simp
      · simp [Nat.testBit_two_pow_self]
    · have : ((if b.testBit j then 2 ^ j else 0) : Nat).testBit t = false := by
        split
        · exact Nat.testBit_two_pow_of_ne (by omega)
        · simp
      have h3 : ¬ t < j + 1 := by omega
      rw [this]; simp [h1, h3]
theorem clIn_yes (a b i j : Nat) (ha : a.testBit i = true) (hb : b.testBit j = true) : clIn a b i j ^^^ 2 ^ (i + j) = clIn a b i (j + 1) := by
  unfold clIn
  rw [if_pos ha, if_pos ha, mod_two_pow_succ_xor, hb, if_pos rfl, mul_two_pow_xor, ← Nat.xor_assoc, Nat.pow_add, Nat.mul_comm (2 ^ i)]
theorem clIn_no (a b i j : Nat) (h : a.testBit i = false ∨ b.testBit j = false) : clIn a b i j = clIn a b i (j + 1) := by
  unfold clIn
  rcases h with h | h
  · rw [h]; simp
  · rw [mod_two_pow_succ_xor, h]; simp

/-- The exponents of what is divided out. -/
def exps : List Nat := [8, 4, 3, 2, 0]
/-- Behind j of the five flips. -/
def rdIn (i N : Nat) : Nat → Nat
  | 0 => N
  | j + 1 => rdIn i N j ^^^ 2 ^ (i - 8 + exps.getD j 0)
theorem rdIn_all (i N : Nat) : rdIn i N 5 = N ^^^ 285 * 2 ^ (i - 8) := by
  have h : (285 : Nat) = 2 ^ 8 ^^^ (2 ^ 4 ^^^ (2 ^ 3 ^^^ (2 ^ 2 ^^^ 2 ^ 0))) := by decide
  simp only [rdIn, exps, List.getD_cons_zero, List.getD_cons_succ, Nat.pow_add]
  rw [h, mul_two_pow_xor, mul_two_pow_xor, mul_two_pow_xor, mul_two_pow_xor]
  simp only [Nat.xor_assoc, Nat.mul_comm (2 ^ (i - 8))]
end Go.Proofs.Ytfnneneaalaagaa

namespace Go.Proofs.Ytfnneneaalaagaa
set_option maxRecDepth 100000
open Go.RowKit

/-- Cell t of a number's bits. -/
def bc (N t : Nat) : Value := .int .i64 (bit1 N t)
theorem bit1_01 (N t : Nat) : 0 ≤ bit1 N t ∧ bit1 N t ≤ 1 := by unfold bit1; split <;> omega
theorem bit1_nat (N t : Nat) : bit1 N t = ((N / 2 ^ t % 2 : Nat) : Int) := by
  unfold bit1
  rw [Nat.testBit_eq_decide_div_mod_eq]
  rcases Nat.mod_two_eq_zero_or_one (N / 2 ^ t) with h | h <;> rw [h] <;> rfl
theorem bitv (a : UInt8) (i : Nat) : bits .and .u8 ((a.toNat : Int) / 2 ^ i) 1 = bit1 a.toNat i := by
  have h : ((a.toNat : Int) / 2 ^ i) = ((a.toNat / 2 ^ i : Nat) : Int) := by simp
  have hl : a.toNat / 2 ^ i < 256 := Nat.lt_of_le_of_lt (Nat.div_le_self _ _) a.toNat_lt
  rw [h, show (1 : Int) = ((1 : Nat) : Int) from rfl, (bits_nats .u8 rfl (a.toNat / 2 ^ i) 1 hl (by decide)).1, Nat.and_one_is_mod, bit1_nat]
theorem bc_flip (N t : Nat) (v : Value) (hv : v = .int .i64 (1 - bit1 N t)) (j : Nat) : (if j = t then v else bc N j) = bc (N ^^^ 2 ^ t) j := by
  subst hv
  unfold bc bit1
  rw [Nat.testBit_xor]
  by_cases h : j = t
  · subst h
    rw [if_pos rfl, Nat.testBit_two_pow_self]
    cases N.testBit j <;> simp
  · rw [if_neg h, Nat.testBit_two_pow_of_ne (fun e => h e.symm)]
    simp
theorem bit_sum (N i : Nat) (c : Int) (h : i < 8) (hc : c = bit1 N i) : ((N : Int) % 2 ^ i + c * 2 ^ i % 256) % 256 = ((N % 2 ^ (i + 1) : Nat) : Int) := by
  rw [hc, bit1_nat]
  clear hc
  rcases i with _ | _ | _ | _ | _ | _ | _ | _ | i <;> first | omega | (simp only [Nat.zero_add, Nat.reduceAdd, Nat.reducePow, Int.reducePow, Int.natCast_emod, Int.natCast_ediv]; omega)

set_option maxHeartbeats 1600000 in
set_option maxRecDepth 100000 in
theorem RMul_any (a b : UInt8) (w : World) : Calls Try.prog 67 #[.int .u8 (a.toNat : Int), .int .u8 (b.toNat : Int)] w fun e w' => e = .returned (cb (rmul a b)) ∧ Below w.heap.size w w' := by
  go_enter Try.func67, Try.ntmps67
  go_wp2
  go_loopw [6] (fun v6 wr => ∃ (i : Nat), v6 = .int .i64 (i : Int) ∧ i ≤ 8 ∧ wr.rowIs w.heap.size 99 16 (bc (cl a.toNat b.toNat i)) ∧ Below w.heap.size w wr) (fun i _ => 8 - (intOf i).toNat)
  case atStart =>
    refine ⟨0, rfl, by omega, ?_, (Below.refl _ _).alloc (Nat.le_refl _) _⟩
    refine (World.rowIs_alloc w _ 99 (fun _ => .int .i64 0) ?_).congr ?_
    · intro i hi
      have : ∀ i, i < 16 → (#[Value.int .i64 0, .int .i64 0, .int .i64 0, .int .i64 0, .int .i64 0, .int .i64 0, .int .i64 0, .int .i64 0, .int .i64 0, .int .i64 0, .int .i64 0, .int .i64 0, .int .i64 0, .int .i64 0, .int .i64 0, .int .i64 0] : Array Value)[i]? = some (.int .i64 0) := by
        intro i hi
        rcases i with _ | _ | _ | _ | _ | _ | _ | _ | _ | _ | _ | _ | _ | _ | _ | _ | i <;> first | rfl | omega
      exact this i hi
    · intro i _
      simp [bc, cl, bit1]
  case round =>
    obtain ⟨i, rfl, hi, hrow, hb⟩ := hrel
    by_cases h8 : i < 8
    · have h8' : (i : Int) < 8 := by omega
      go_wp2
      go_loopw [7] (fun v7 wr2 => ∃ (j : Nat), v7 = .int .i64 (j : Int) ∧ j ≤ 8 ∧ wr2.rowIs w.heap.size 99 16 (bc (clIn a.toNat b.toNat i j)) ∧ Below w.heap.size w wr2) (fun i _ => 8 - (intOf i).toNat)
      case atStart => exact ⟨0, rfl, by omega, by rw [clIn_zero]; exact hrow, hb⟩
      case round =>
        obtain ⟨j, rfl, hj, hrow2, hb2⟩ := hrel
        by_cases h8j : j < 8
        · have h8j' : (j : Int) < 8 := by omega
          have ha := bitv a i
          have hbb := bitv b j
          by_cases hai : a.toNat.testBit i = true
          · rw [bit1, if_pos hai] at ha
            by_cases hbj : b.toNat.testBit j = true
            · rw [bit1, if_pos hbj] at hbb
              have hcell := hrow2.cell (show i + j < 16 by omega)
              have hfr := hrow2.frozen (i + j)
              obtain ⟨cv, hcv⟩ : ∃ z, z = bit1 (clIn a.toNat b.toNat i j) (i + j) := ⟨_, rfl⟩
              rw [bc, ← hcv] at hcell
              have h01 := bit1_01 (clIn a.toNat b.toNat i j) (i + j)
              rw [← hcv] at h01
              obtain ⟨h0, h1⟩ := h01
              have HCV := Lib.hid hcv
              have HA := Lib.hid hai
              have HB := Lib.hid hbj
              clear hcv hai hbj
              go_wp2
              go_roundw
              case rel => exact ⟨j + 1, by go_num, by omega, (hrow2.set _ _).congr (fun t _ => (bc_flip _ _ _ (by rw [HCV.out]) t).trans (by rw [clIn_yes _ _ _ _ HA.out HB.out])), hb2.setCell (Nat.le_refl _) _⟩
              case measure => simp [intOf]; omega
            · rw [bit1, if_neg hbj] at hbb
              have HB := Lib.hid hbj
              clear hai hbj
              go_wp2
              go_roundw
              case rel => exact ⟨j + 1, by go_num, by omega, by rw [← clIn_no _ _ _ _ (.inr (by simpa using HB.out))]; exact hrow2, hb2⟩
              case measure => simp [intOf]; omega
          · rw [bit1, if_neg hai] at ha
            have HA := Lib.hid hai
            clear hai hbb
            go_wp2
            go_roundw
            case rel => exact ⟨j + 1, by go_num, by omega, by rw [← clIn_no _ _ _ _ (.inl (by simpa using HA.out))]; exact hrow2, hb2⟩
            case measure => simp [intOf]; omega
        · have h8j' : (8 : Int) ≤ (j : Int) := by omega
          obtain rfl : j = 8 := by omega
          rw [clIn_all _ _ _ b.toNat_lt] at hrow2
          go_wp2
          exact ⟨⟨i + 1, by go_num, by omega, hrow2, hb2⟩, by simp [intOf]; omega⟩
    · have h8' : (8 : Int) ≤ (i : Int) := by omega
      have hi8 : i = 8 := by omega
      rw [hi8] at hrow
      clear hi8
      generalize hN0 : cl a.toNat b.toNat 8 = N0 at hrow
      have hB0 : w.heap.size < wr.heap.size := hrow.lt
      generalize hE : wr.heap.size = E at hB0
      have hexps : (wr.alloc (.cells #[.int .i64 8, .int .i64 4, .int .i64 3, .int .i64 2, .int .i64 0] 3)).rowIs E 3 5 (fun j => .int .i64 (exps.getD j 0 : Nat)) := by
        rw [← hE]
        refine World.rowIs_alloc wr _ _ _ ?_
        intro t ht
        rcases t with _ | _ | _ | _ | _ | t <;> first | rfl | (simp at ht; omega)
      have hrow0 := hrow.alloc (.cells #[.int .i64 8, .int .i64 4, .int .i64 3, .int .i64 2, .int .i64 0] 3)
      have hbz : Below w.heap.size w (wr.alloc (.cells #[.int .i64 8, .int .i64 4, .int .i64 3, .int .i64 2, .int .i64 0] 3)) := hb.alloc (by omega) _
      clear hrow hb hi h8
      go_wp2
      clear h8'
      have HB0 : Go.RowKit.Hid (w.heap.size < E) := Lib.hid hB0
      clear hE hB0
      go_loopw [9] (fun v9 wr2 => ∃ (m N : Nat), v9 = .int .i64 (m : Int) ∧ 7 ≤ m ∧ m ≤ 15 ∧ wr2.rowIs w.heap.size 99 16 (bc N) ∧ wr2.rowIs E 3 5 (fun j => .int .i64 (exps.getD j 0 : Nat)) ∧ Below w.heap.size w wr2 ∧ rdF (m - 7) N = rdF 8 N0) (fun i _ => (intOf i).toNat)
      case atStart => exact ⟨15, N0, rfl, by omega, by omega, hrow0, hexps, hbz, rfl⟩
      case round =>
        obtain ⟨m, N, rfl, hm7, hm15, hrow, hex, hb, hrd⟩ := hrel
        have HRD := Lib.hid hrd
        clear hrd hrow0 hexps hbz
        by_cases h7 : m = 7
        · have h7' : (m : Int) < 8 := by omega
          obtain rfl := h7
          have hN : N = rdF 8 N0 := HRD.out
          have HN := Lib.hid hN
          clear hN hex HRD hm7 hm15
          go_wp2
          go_loopw [11, 12] (fun v11 v12 wr2 => ∃ (i : Nat), v12 = .int .i64 (i : Int) ∧ i ≤ 8 ∧ v11 = .int .u8 ((N % 2 ^ i : Nat) : Int) ∧ wr2 = wr) (fun _ i _ => 8 - (intOf i).toNat)
          case atStart => exact ⟨0, rfl, by omega, by simp [Nat.mod_one], rfl⟩
          case round =>
            obtain ⟨i, rfl, hi, rfl, rfl⟩ := hrel
            by_cases h8 : i < 8
            · have h8' : (i : Int) < 8 := by omega
              have hcell := hrow.cell (show i < 16 by omega)
              rw [bc] at hcell
              obtain ⟨cv, hcv⟩ : ∃ z, z = bit1 N i := ⟨_, rfl⟩
              rw [← hcv] at hcell
              obtain ⟨h0, h1⟩ := bit1_01 N i
              rw [← hcv] at h0 h1
              have HCV := Lib.hid hcv
              clear hcv
              go_wp2
              exact ⟨⟨i + 1, by go_num, by omega, by rw [← bit_sum N i cv h8 HCV.out], trivial⟩, by simp [intOf]; omega⟩
            · obtain rfl : i = 8 := by omega
              go_wp2
              go_ret
              refine ⟨?_, hb⟩
              show Ending.returned (.int .u8 _) = _
              rw [rmul, cb, hN0, ← HN.out, UInt8.toNat_ofNat']
        · have h8' : (8 : Int) ≤ (m : Int) := by omega
          have hcell := hrow.cell (show m < 16 by omega)
          have hstep : rdF (m - 7) N = rdF (m - 8) (rdStep m N) := by
            rw [show m - 7 = (m - 8) + 1 by omega, rdF, show 8 + (m - 8) = m by omega]
          rw [bc, bit1] at hcell
          by_cases hbit : N.testBit m = true
          · rw [if_pos hbit] at hcell
            rw [rdStep, if_pos hbit, ← rdIn_all] at hstep
            have HST := Lib.hid hstep
            have HBT := Lib.hid hbit
            clear hstep hbit
            go_wp2
            go_loopw [10] (fun v10 wr3 => ∃ (j : Nat), v10 = .int .i64 (j : Int) ∧ j ≤ 5 ∧ wr3.rowIs w.heap.size 99 16 (bc (rdIn m N j)) ∧ wr3.rowIs E 3 5 (fun j => .int .i64 (exps.getD j 0 : Nat)) ∧ Below w.heap.size w wr3) (fun i _ => 5 - (intOf i).toNat)
            case atStart => exact ⟨0, rfl, by omega, hrow, hex, hb⟩
            case round =>
              obtain ⟨j, rfl, hj, hrow3, hex3, hb3⟩ := hrel
              clear hrow hex hb hcell
              by_cases h5 : j < 5
              · have h5' : (j : Int) < 5 := by omega
                have hx8 : exps.getD j 0 ≤ 8 := by
                  rcases j with _ | _ | _ | _ | _ | j <;> first | decide | omega
                have hcE := hex3.cell h5
                obtain ⟨x, hx⟩ : ∃ x, x = exps.getD j 0 := ⟨_, rfl⟩
                rw [← hx] at hx8
                simp only [← hx] at hcE
                have hcB := hrow3.cell (show m - 8 + x < 16 by omega)
                have hfr := hrow3.frozen (m - 8 + x)
                obtain ⟨cv, hcv⟩ : ∃ z, z = bit1 (rdIn m N j) (m - 8 + x) := ⟨_, rfl⟩
                rw [bc, ← hcv] at hcB
                obtain ⟨h0, h1⟩ := bit1_01 (rdIn m N j) (m - 8 + x)
                rw [← hcv] at h0 h1
                have HCV := Lib.hid hcv
                have HX := Lib.hid hx
                clear hcv hx
                have hidx : ((m : Int) - 8 + (x : Int)).toNat = m - 8 + x := by omega
                have hw1 : IntKind.i64.wrap ((m : Int) - 8 + (x : Int)) = (m : Int) - 8 + (x : Int) := by rw [IntKind.wrap_i64]; omega
                have hw2 : IntKind.i64.wrap ((m : Int) - 8) = (m : Int) - 8 := by rw [IntKind.wrap_i64]; omega
                have hlo : 0 ≤ (m : Int) - 8 + (x : Int) := by omega
                have hhi : (m : Int) - 8 + (x : Int) < 16 := by omega
                go_wp2_with fail
                go_still_tail 18, (by kernel_rfl)
                have hrow4 : wr.drew.rowIs w.heap.size 99 16 (bc (rdIn m N j)) := hrow3
                have hex4 : wr.drew.rowIs E 3 5 (fun j => .int .i64 (exps.getD j 0 : Nat)) := hex3
                have hb4 : Below w.heap.size w wr.drew := hb3.drew
                have hcB4 : wr.drew.cell? ⟨w.heap.size, m - 8 + x, none⟩ = some (.int .i64 cv) := hcB
                have hfr4 : wr.drew.frozen? ⟨w.heap.size, m - 8 + x, none⟩ = false := hfr
                clear hrow3 hex3 hb3 hcB hfr hcE
                change wpList _ _ _ _ _ wr.drew
                generalize wr.drew = w2 at hrow4 hex4 hb4 hcB4 hfr4 ⊢
                go_wp2
                go_roundw
                case rel =>
                  exact ⟨j + 1, by go_num, by omega, (hrow4.set _ _).congr (fun t _ => (bc_flip _ _ _ (by rw [HCV.out]) t).trans (by rw [rdIn, HX.out])), hex4.setOther (by have := HB0.out; show _ ≠ w.heap.size; omega) _, hb4.setCell (Nat.le_refl _) _⟩
                case measure => simp [intOf]; omega
              · obtain rfl : j = 5 := by omega
                have h5' : (5 : Int) ≤ ((5 : Nat) : Int) := by omega
                go_wp2
                exact ⟨⟨m - 1, rdIn m N 5, by go_num, by omega, by omega, hrow3, hex3, hb3, by rw [← HRD.out, HST.out, show m - 1 - 7 = m - 8 by omega]⟩, by simp [intOf]; omega⟩
          · rw [if_neg hbit] at hcell
            rw [rdStep, if_neg hbit] at hstep
            have HST := Lib.hid hstep
            clear hstep hbit
            go_wp2
            exact ⟨⟨m - 1, N, by go_num, by omega, by omega, hrow, hex, hb, by rw [← HRD.out, HST.out, show m - 1 - 7 = m - 8 by omega]⟩, by simp [intOf]; omega⟩
end Go.Proofs.Ytfnneneaalaagaa

namespace Go.Proofs.Ytfnneneaalaagaa
set_option maxRecDepth 100000
open Go.RowKit
set_option linter.unusedSimpArgs false
set_option linter.unusedVariables false

theorem fillL_flat (c : Nat) (f : Nat → Nat → UInt8) (hc : 0 < c) : ∀ r, fillL r c f = (List.range (r * c)).map fun i => f (i / c) (i % c)
  | 0 => by simp [fillL]
  | r + 1 => by
    rw [fillL_succ, fillL_flat c f hc r, Nat.add_mul, Nat.one_mul, List.range_add, List.map_append, List.map_map]
    congr 1
    refine List.map_congr_left fun j hj => ?_
    have hj' := List.mem_range.mp hj
    show f r j = f ((r * c + j) / c) ((r * c + j) % c)
    have e1 : (r * c + j) / c = r := by rw [Nat.mul_comm, Nat.mul_add_div hc, Nat.div_eq_of_lt hj', Nat.add_zero]
    have e2 : (r * c + j) % c = j := by rw [Nat.mul_comm, Nat.mul_add_mod, Nat.mod_eq_of_lt hj']
    rw [e1, e2]
def relU (n : Nat) (w : World) (bm br : Nat) (v5 : Value) (wr : World) : Prop := ∃ (i : Nat) (cur : List UInt8) (A : Option Addr) (cp : Nat), v5 = .int .i64 (i : Int) ∧ i ≤ n * n ∧ Hid (cur = (List.range i).map fun i => unitF (i / n) (i % n)) ∧ SH Nil w wr [.row B8 (.slice A cur.length cp) cur, .blk bm 38 (mxC ((n : Int), (n : Int), A, cur.length, cp)), .blk br 38 (mxC (0, 0, none, 0, 0))]
set_option maxHeartbeats 1600000 in
set_option maxRecDepth 100000 in
theorem rUnit_ok (n : Nat) (w : World) (h1 : 1 ≤ n) (h2 : n ≤ 32) : Calls Try.prog 25 #[.int .i64 (n : Int)] w fun e w' => GivesMx rxT w n n (fillL n n unitF) 0 e w' := by
  have H0 := SH.start Nil w
  have d1 : decide ((n : Int) < 1) = false := by simp; omega
  have d2 : decide ((32 : Int) < (n : Int)) = false := by simp; omega
  have hnn : n * n ≤ 32 * 32 := Nat.mul_le_mul h2 h2
  have hnI : (n : Int) * (n : Int) = ((n * n : Nat) : Int) := by push_cast; rfl
  have hni : (n : Int) ≤ 32 := by omega
  have hnp : (0 : Int) < (n : Int) := by omega
  have hnz : (n = 0) = False := eq_false (by omega)
  have HFL := Lib.hid (fillL_flat n unitF (by omega) n)
  obtain ⟨m, hm⟩ : ∃ m, m = n * n := ⟨_, rfl⟩
  rw [← hm] at hnI hnn
  have hmi : (m : Int) ≤ 1024 := by omega
  have HM := Lib.hid hm
  clear hm
  go_enter Try.func25, Try.ntmps25
  go_wp2_with (first
    | ((with_reducible refine gAlloc ?_); refine wVar rxT ((n : Int), (n : Int), none, 0, 0) H1 rfl 4 _ rfl rfl rfl rfl rfl ?_; clear H1; intro w2 H2)
    | ((with_reducible refine gAlloc ?_); refine wAlloc rxT H0 rfl rfl ?_; clear H0; intro w1 H1))
  go_loopw [5] (fun v5 wr => relU n w w1.heap.size w.heap.size v5 wr) (fun v _ => m - (intOf v).toNat)
  case atStart => exact ⟨0, [], none, 0, rfl, by omega, by rfl, H2.nilRow B8⟩
  case round =>
    obtain ⟨i, cur, A, cp, rfl, hi, HC, HS⟩ := hrel
    rw [← HM.out] at hi
    clear H2
    by_cases him : i < m
    · have hii : (i : Int) < (m : Int) := by omega
      have hcl : cur.length ≤ 2000 := by rw [HC.out, List.length_map, List.length_range]; omega
      have hst : cur ++ [unitF (i / n) (i % n)] = (List.range (i + 1)).map fun i => unitF (i / n) (i % n) := by rw [HC.out, List.range_succ, List.map_append]; rfl
      have hq : (i : Int) / (n : Int) = ((i / n : Nat) : Int) := by push_cast; rfl
      have hr : (i : Int) % (n : Int) = ((i % n : Nat) : Int) := by push_cast; rfl
      have hu : unitF (i / n) (i % n) = if i / n = i % n then 1 else 0 := rfl
      have hbq : ((i / n : Nat) : Int) ≤ 1024 := by have := Nat.div_le_self i n; omega
      have hbr : ((i % n : Nat) : Int) ≤ 1024 := by have := Nat.mod_le i n; omega
      have hrt : (i : Int).tmod (n : Int) = ((i % n : Nat) : Int) := by rw [Int.tmod_eq_emod_of_nonneg (by omega)]; exact hr
      generalize unitF (i / n) (i % n) = x at hst hu
      generalize i / n = a at *
      generalize i % n = b at *
      have hwa : IntKind.i64.wrap (a : Int) = (a : Int) := by rw [IntKind.wrap_i64]; omega
      have hwb : IntKind.i64.wrap (b : Int) = (b : Int) := by rw [IntKind.wrap_i64]; omega
      have HST := Lib.hid hst
      have HCL := Lib.hid hcl
      have H := HS.drew
      clear hst hcl HS
      by_cases hab : a = b
      · have e1 : ((a : Int) == (b : Int)) = true := beq_iff_eq.mpr (by omega)
        rw [if_pos hab] at hu
        subst hu
        clear hab
        go_wp2
        refine startS (fun _ => True) (by kernel_rfl) trivial ?_
        refine takeS 0 trivial rfl (by kernel_rfl) (by kernel_rfl) (by kernel_rfl) (fun _ _ _ h => h) rfl (v := ?_) ?_ ?_
        rotate_left
        · intro w' hw'; clear hw'; go_simp; (try with_reducible rfl)
        (try simp only [Act.put, List.setIfInBounds_toArray, List.set_cons_zero, List.set_cons_succ])
        refine takeS 1 trivial rfl (by kernel_rfl) (by kernel_rfl) (by kernel_rfl) (fun _ _ _ h => h) rfl (v := ?_) ?_ ?_
        rotate_left
        · intro w' hw'; clear hw'; go_simp; (try with_reducible rfl)
        (try simp only [Act.put, List.setIfInBounds_toArray, List.set_cons_zero, List.set_cons_succ])
        refine takeS 2 trivial rfl (by kernel_rfl) (by kernel_rfl) (by kernel_rfl) (fun _ _ _ h => h) rfl (v := ?_) ?_ ?_
        rotate_left
        · intro w' hw'; clear hw'; go_simp; (try with_reducible rfl)
        (try simp only [Act.put, List.setIfInBounds_toArray, List.set_cons_zero, List.set_cons_succ])
        refine takeS 3 trivial rfl (by kernel_rfl) (by kernel_rfl) (by kernel_rfl) (fun _ _ _ h => h) rfl (v := ?_) ?_ ?_
        rotate_left
        · intro w' hw'; clear hw'; go_simp; (try with_reducible rfl)
        (try simp only [Act.put, List.setIfInBounds_toArray, List.set_cons_zero, List.set_cons_succ])
        refine takeS 4 trivial rfl (by kernel_rfl) (by kernel_rfl) (by kernel_rfl) (fun _ _ _ h => h) rfl (v := ?_) ?_ ?_
        rotate_left
        · intro w' hw'; clear hw'; go_simp; (try with_reducible rfl)
        (try simp only [Act.put, List.setIfInBounds_toArray, List.set_cons_zero, List.set_cons_succ])
        refine takeS 5 trivial rfl (by kernel_rfl) (by kernel_rfl) (by kernel_rfl) (fun _ _ _ h => h) rfl (v := ?_) ?_ ?_
        rotate_left
        · intro w' hw'; clear hw'; go_simp; (try with_reducible rfl)
        (try simp only [Act.put, List.setIfInBounds_toArray, List.set_cons_zero, List.set_cons_succ])
        refine takeS 6 trivial rfl (by kernel_rfl) (by kernel_rfl) (by kernel_rfl) (fun _ _ _ h => h) rfl (v := ?_) ?_ ?_
        rotate_left
        · intro w' hw'; clear hw'; go_simp; (try with_reducible rfl)
        (try simp only [Act.put, List.setIfInBounds_toArray, List.set_cons_zero, List.set_cons_succ])
        refine doneS (by kernel_rfl) ?_
        have k2 : wr.drew.cell? ⟨w1.heap.size, 2, none⟩ = some (.slice A cur.length cp) := (H.va 1 rfl).cell 2
        go_wp2_with (first
          | (at_builtin; refine wAppLit sB [1] #[.int .u8 1] rfl (by simp) 1 rfl H 0 rfl (by have := HCL.out; show (cur.length + 1) * 1 ≤ _; omega) _ _ rfl rfl rfl rfl ?_; clear H k2; intro v6 w6 H6; obtain ⟨A6, c6, rfl, hc6⟩ := (H6.rr 0 rfl).len)
          | ((with_reducible refine gStore ?_); refine wCell 22 (.slice A6 (cur.length + 1) c6) (by kernel_rfl) rfl rfl H6 1 (off := 2) rfl (Nat.le_refl 3) (mxC ((n : Int), (n : Int), A6, cur.length + 1, c6)) rfl _ _ rfl rfl rfl rfl ?_; clear H6; intro w7 H7; rw [show cur.length + 1 = (cur ++ [(1 : UInt8)]).length from by simp] at H7))
        go_roundw
        case rel => first | exact ⟨i + 1, _, _, _, by go_num, by have := HM.out; omega, HST, H7⟩ | exact ⟨_, ⟨i + 1, _, _, _, by go_num, by have := HM.out; omega, HST, H7⟩, rfl⟩
        case measure => simp [intOf] <;> omega
      · have e1 : ((a : Int) == (b : Int)) = false := beq_eq_false_iff_ne.mpr (by omega)
        rw [if_neg hab] at hu
        subst hu
        clear hab
        go_wp2
        refine startS (fun _ => True) (by kernel_rfl) trivial ?_
        refine takeS 0 trivial rfl (by kernel_rfl) (by kernel_rfl) (by kernel_rfl) (fun _ _ _ h => h) rfl (v := ?_) ?_ ?_
        rotate_left
        · intro w' hw'; clear hw'; go_simp; (try with_reducible rfl)
        (try simp only [Act.put, List.setIfInBounds_toArray, List.set_cons_zero, List.set_cons_succ])
        refine takeS 1 trivial rfl (by kernel_rfl) (by kernel_rfl) (by kernel_rfl) (fun _ _ _ h => h) rfl (v := ?_) ?_ ?_
        rotate_left
        · intro w' hw'; clear hw'; go_simp; (try with_reducible rfl)
        (try simp only [Act.put, List.setIfInBounds_toArray, List.set_cons_zero, List.set_cons_succ])
        refine takeS 2 trivial rfl (by kernel_rfl) (by kernel_rfl) (by kernel_rfl) (fun _ _ _ h => h) rfl (v := ?_) ?_ ?_
        rotate_left
        · intro w' hw'; clear hw'; go_simp; (try with_reducible rfl)
        (try simp only [Act.put, List.setIfInBounds_toArray, List.set_cons_zero, List.set_cons_succ])
        refine takeS 3 trivial rfl (by kernel_rfl) (by kernel_rfl) (by kernel_rfl) (fun _ _ _ h => h) rfl (v := ?_) ?_ ?_
        rotate_left
        · intro w' hw'; clear hw'; go_simp; (try with_reducible rfl)
        (try simp only [Act.put, List.setIfInBounds_toArray, List.set_cons_zero, List.set_cons_succ])
        refine takeS 4 trivial rfl (by kernel_rfl) (by kernel_rfl) (by kernel_rfl) (fun _ _ _ h => h) rfl (v := ?_) ?_ ?_
        rotate_left
        · intro w' hw'; clear hw'; go_simp; (try with_reducible rfl)
        (try simp only [Act.put, List.setIfInBounds_toArray, List.set_cons_zero, List.set_cons_succ])
        refine takeS 5 trivial rfl (by kernel_rfl) (by kernel_rfl) (by kernel_rfl) (fun _ _ _ h => h) rfl (v := ?_) ?_ ?_
        rotate_left
        · intro w' hw'; clear hw'; go_simp; (try with_reducible rfl)
        (try simp only [Act.put, List.setIfInBounds_toArray, List.set_cons_zero, List.set_cons_succ])
        refine takeS 6 trivial rfl (by kernel_rfl) (by kernel_rfl) (by kernel_rfl) (fun _ _ _ h => h) rfl (v := ?_) ?_ ?_
        rotate_left
        · intro w' hw'; clear hw'; go_simp; (try with_reducible rfl)
        (try simp only [Act.put, List.setIfInBounds_toArray, List.set_cons_zero, List.set_cons_succ])
        refine doneS (by kernel_rfl) ?_
        have k2 : wr.drew.cell? ⟨w1.heap.size, 2, none⟩ = some (.slice A cur.length cp) := (H.va 1 rfl).cell 2
        go_wp2_with (first
          | (at_builtin; refine wAppLit sB [0] #[.int .u8 0] rfl (by simp) 1 rfl H 0 rfl (by have := HCL.out; show (cur.length + 1) * 1 ≤ _; omega) _ _ rfl rfl rfl rfl ?_; clear H k2; intro v6 w6 H6; obtain ⟨A6, c6, rfl, hc6⟩ := (H6.rr 0 rfl).len)
          | ((with_reducible refine gStore ?_); refine wCell 22 (.slice A6 (cur.length + 1) c6) (by kernel_rfl) rfl rfl H6 1 (off := 2) rfl (Nat.le_refl 3) (mxC ((n : Int), (n : Int), A6, cur.length + 1, c6)) rfl _ _ rfl rfl rfl rfl ?_; clear H6; intro w7 H7; rw [show cur.length + 1 = (cur ++ [(0 : UInt8)]).length from by simp] at H7))
        go_roundw
        case rel => first | exact ⟨i + 1, _, _, _, by go_num, by have := HM.out; omega, HST, H7⟩ | exact ⟨_, ⟨i + 1, _, _, _, by go_num, by have := HM.out; omega, HST, H7⟩, rfl⟩
        case measure => simp [intOf] <;> omega
    · obtain rfl : i = m := by omega
      have hcur := HC.out
      rw [HM.out, ← HFL.out] at hcur
      subst hcur
      clear HC
      go_wp2_with (first
        | ((with_reducible refine gLoad ?_); refine wLoad rxT ((n : Int), (n : Int), A, (fillL n n unitF).length, cp) HS 1 rfl rfl _ rfl rfl rfl ?_)
        | ((with_reducible refine gStore ?_); refine wStore rxT ((n : Int), (n : Int), A, (fillL n n unitF).length, cp) HS 2 rfl rfl _ _ rfl rfl rfl rfl ?_; clear HS; intro w5 H))
      refine bodyPost_ret (results_cell_tmp rfl _ (H.va 2 rfl) rfl _ Try.underlying38 rfl (rxT.sz _)) rfl ?_
      exact ⟨A, cp, rfl, H.orow 0 rfl, H.below⟩
theorem rUnit_bad (n : Int) (w : World) (h : sizeB n = false) : Calls Try.prog 25 #[.int .i64 n] w fun e w' => e = .returned (.tuple #[.agg (rxT.enc rxT.zero).toArray, .int .i64 1]) ∧ Below w.heap.size w w' := by
  have H0 := SH.start Nil w
  have hd : (decide (n < 1) = true) ∨ (decide (n < 1) = false ∧ decide (32 < n) = true) := by
    have h2 : ¬ (1 ≤ n ∧ n ≤ 32) := fun h3 => by rw [(sizeB_iff n).2 h3] at h; cases h
    simp only [decide_eq_true_eq, decide_eq_false_iff_not]; omega
  clear h
  rcases hd with d1 | ⟨d1, d2⟩
  all_goals
    go_enter Try.func25, Try.ntmps25
    go_wp2_with (first
      | ((with_reducible refine gAlloc ?_); refine wAlloc rxT H0 rfl rfl ?_; clear H0; intro w1 H1)
      | ((with_reducible refine gBuild ?_); refine wZero rxT rfl rfl ?_)
      | ((with_reducible refine gStore ?_); refine wStore rxT rxT.zero H1 0 rfl rfl _ _ rfl rfl rfl rfl ?_; clear H1; intro w5 H))
    refine bodyPost_ret (results_cell_tmp rfl _ (H.va 0 rfl) rfl _ Try.underlying38 rfl (rxT.sz _)) rfl ?_
    exact ⟨rfl, H.below⟩
end Go.Proofs.Ytfnneneaalaagaa

namespace Go.Proofs.Ytfnneneaalaagaa
set_option maxRecDepth 100000
open Go.RowKit

theorem RMul_f (a b : UInt8) (w : World) : Calls Try.prog 67 #[.int .u8 (a.toNat : Int), .int .u8 (b.toNat : Int)] w fun e w' => e = .returned (.int .u8 ((fmul a b).toNat : Int)) ∧ Below w.heap.size w w' := by
  rw [← rmul_eq]
  exact RMul_any a b w

theorem finv_zero : finv 0 = 0 := zero_fpow 254 (by decide)
theorem u8_val0 {a : UInt8} (h : a.toNat = 0) : a = 0 := UInt8.toNat_inj.mp (by simpa using h)
theorem u8_lt1 {a : UInt8} (h : a ≠ 0) : 1 ≤ a.toNat := by
  rcases Nat.eq_zero_or_pos a.toNat with e | e
  · exact absurd (u8_val0 e) h
  · exact e
theorem u8_eq1 (m : UInt8) : ((m.toNat : Int) == 1) = decide (m = 1) := by
  by_cases h : m = 1
  · subst h; rfl
  · have : ¬ (m.toNat : Int) = 1 := fun e => h (UInt8.toNat_inj.mp (by show m.toNat = 1; omega))
    simp [h, this]

set_option maxHeartbeats 800000 in
set_option maxRecDepth 100000 in
theorem RInverse_any (a : UInt8) (w : World) : Calls Try.prog 57 #[.int .u8 (a.toNat : Int)] w fun e w' => e = .returned (.tuple #[.int .u8 ((finv a).toNat : Int), .int .i64 (fdivE a)]) ∧ Below w.heap.size w w' := by
  go_enter Try.func57, Try.ntmps57
  go_wp2
  go_loopw [4] (fun v4 wr => ∃ (k : Nat), v4 = .int .i64 (k : Int) ∧ 1 ≤ k ∧ k ≤ 256 ∧ (∀ c, 1 ≤ c → c < k → fmul a (UInt8.ofNat c) ≠ 1) ∧ Below w.heap.size w wr) (fun i _ => 256 - (intOf i).toNat)
  case atStart => exact ⟨1, rfl, by omega, by omega, fun c h1 h2 => by omega, Below.refl _ _⟩
  case round =>
    obtain ⟨k, rfl, hk1, hk, hno, hb⟩ := hrel
    have HNO := Lib.hid hno
    clear hno
    by_cases h : k < 256
    · have h' : (k : Int) < 256 := by omega
      obtain ⟨q, hq⟩ : ∃ q, q = UInt8.ofNat k := ⟨_, rfl⟩
      have hqk : ((q.toNat : Nat) : Int) = (k : Int) := by rw [hq]; exact (low8' k h).symm
      have c := fun W => RMul_f a q W
      rw [hqk] at c
      obtain ⟨m, hm⟩ : ∃ m, m = fmul a q := ⟨_, rfl⟩
      rw [← hm] at c
      have HM := Lib.hid hm
      have HQ := Lib.hid hq
      have HQK := Lib.hid hqk
      clear hm hq hqk
      have h1 := u8_eq1 m
      by_cases hm1 : m = 1
      · rw [decide_eq_true hm1] at h1
        have HM1 := Lib.hid hm1
        clear hm1
        go_wp2_with (first | (go_at_call 67; (with_reducible refine (c _).mono ?_); rintro e w1 ⟨rfl, hb1⟩))
        go_ret2
        have he : fmul a q = 1 := by rw [← HM.out]; exact HM1.out
        have hi : q = finv a := finv_unique a q he
        have ha : a ≠ 0 := fun e => by rw [e, zero_fmul] at he; exact absurd he (by decide)
        rw [fdivE, if_neg ha, ← hi, HQK.out]
        exact ⟨rfl, below_two hb hb.size hb1⟩
      · rw [decide_eq_false hm1] at h1
        have HM1 := Lib.hid hm1
        clear hm1
        go_wp2_with (first | (go_at_call 67; (with_reducible refine (c _).mono ?_); rintro e w1 ⟨rfl, hb1⟩))
        go_roundw
        case rel =>
          refine ⟨k + 1, by go_num, by omega, by omega, fun c h1 h2 => ?_, below_two hb hb.size hb1⟩
          by_cases hc : c = k
          · rw [hc, ← HQ.out, ← HM.out]; exact HM1.out
          · exact HNO.out c h1 (by omega)
        case measure => simp [intOf]; omega
    · have h' : (256 : Int) ≤ (k : Int) := by omega
      go_wp2
      go_ret2
      have ha : a = 0 := Classical.byContradiction fun ha => by
        refine HNO.out (finv a).toNat (u8_lt1 (finv_ne a ha)) (by have := (finv a).toNat_lt; omega) ?_
        rw [UInt8.ofNat_toNat, fmul_finv a ha]
      rw [fdivE, if_pos ha, ha, finv_zero]
      exact ⟨rfl, hb⟩

end Go.Proofs.Ytfnneneaalaagaa

namespace Go.Proofs.Ytfnneneaalaagaa
set_option maxRecDepth 100000
open Go.RowKit
set_option linter.unusedSimpArgs false
set_option linter.unusedVariables false

theorem finv0_eq (a : UInt8) : finv0 a = finv a := by
  unfold finv0
  by_cases h : a = 0
  · rw [if_pos h, h, finv_zero]
  · rw [if_neg h]
def relCd (n k : Nat) (w : World) (bm br : Nat) (v7 : Value) (wr : World) : Prop := ∃ (i : Nat) (A : Option Addr) (cp : Nat), v7 = .int .i64 (i : Int) ∧ i ≤ n ∧ SH Nil w wr [.row B8 (.slice A (fillL i k (codeF k)).length cp) (fillL i k (codeF k)), .blk bm 38 (mxC ((n : Int), (k : Int), A, (fillL i k (codeF k)).length, cp)), .blk br 38 (mxC (0, 0, none, 0, 0))]
def relCe (n k i : Nat) (w : World) (bm br : Nat) (v8 : Value) (wr : World) : Prop := ∃ (j : Nat) (cur : List UInt8) (A : Option Addr) (cp : Nat), v8 = .int .i64 (j : Int) ∧ j ≤ k ∧ Hid (cur = fillL i k (codeF k) ++ (List.range j).map (codeF k i)) ∧ SH Nil w wr [.row B8 (.slice A cur.length cp) cur, .blk bm 38 (mxC ((n : Int), (k : Int), A, cur.length, cp)), .blk br 38 (mxC (0, 0, none, 0, 0))]
set_option maxHeartbeats 3200000 in
set_option maxRecDepth 100000 in
theorem rCode_ok (k n : Nat) (w : World) (h1 : 1 ≤ k) (h2 : k ≤ n) (h3 : n ≤ 32) : Calls Try.prog 27 #[.int .i64 (k : Int), .int .i64 (n : Int)] w fun e w' => GivesMx rxT w n k (fillL n k (codeF k)) 0 e w' := by
  have H0 := SH.start Nil w
  have d1 : decide ((k : Int) < 1) = false := by simp; omega
  have d2 : decide ((n : Int) < (k : Int)) = false := by simp; omega
  have d3 : decide ((32 : Int) < (n : Int)) = false := by simp; omega
  go_enter Try.func27, Try.ntmps27
  go_wp2_with (first
    | ((with_reducible refine gAlloc ?_); refine wVar rxT ((n : Int), (k : Int), none, 0, 0) H1 rfl 6 _ rfl rfl rfl rfl rfl ?_; clear H1; intro w2 H2)
    | ((with_reducible refine gAlloc ?_); refine wAlloc rxT H0 rfl rfl ?_; clear H0; intro w1 H1))
  go_loopw [7] (fun v7 wr => relCd n k w w1.heap.size w.heap.size v7 wr) (fun v _ => n - (intOf v).toNat)
  case atStart => exact ⟨0, none, 0, rfl, by omega, H2.nilRow B8⟩
  case round =>
    obtain ⟨i, A, cp, rfl, hi, HS⟩ := hrel
    clear H2
    by_cases hir : i < n
    · have hii : (i : Int) < (n : Int) := by omega
      go_wp2
      go_loopw [8] (fun v8 wr => relCe n k i w w1.heap.size w.heap.size v8 wr) (fun v _ => k - (intOf v).toNat)
      case atStart => exact ⟨0, _, A, cp, rfl, by omega, by simp [Hid], HS⟩
      case round =>
        obtain ⟨j, cur, A, cp, rfl, hj, HC, H⟩ := hrel
        by_cases hjc : j < k
        · have hji : (j : Int) < (k : Int) := by omega
          have hcl : cur.length ≤ 5000 := by
            rw [HC.out, List.length_append, fillL_len, List.length_map, List.length_range]
            have := Nat.mul_le_mul (show i ≤ 32 by omega) (show k ≤ 32 by omega)
            omega
          have HCL := Lib.hid hcl
          have hst : cur ++ [codeF k i j] = fillL i k (codeF k) ++ (List.range (j + 1)).map (codeF k i) := by rw [HC.out, List.range_succ, List.map_append, List.append_assoc]; rfl
          clear hcl
          by_cases hik : i < k
          · have hk1 : decide ((k : Int) ≤ (i : Int)) = false := by simp; omega
            have hk2 : ((k : Int) ≤ (i : Int)) = False := eq_false (by omega)
            by_cases hab : i = j
            · have e1 : ((i : Int) == (j : Int)) = true := beq_iff_eq.mpr (by omega)
              rw [codeF, if_pos hik, unitF, if_pos hab] at hst
              have HST := Lib.hid hst
              clear hst hab
              have k2 : World.cell? _ ⟨w1.heap.size, 2, none⟩ = some (.slice A cur.length cp) := (H.va 1 rfl).cell 2
              go_wp2_with (first
                | (at_builtin; refine wAppLit sB [1] #[.int .u8 1] rfl (by simp) 1 rfl H 0 rfl (by have := HCL.out; show (cur.length + 1) * 1 ≤ _; omega) _ _ rfl rfl rfl rfl ?_; clear H k2; intro v6 w6 H6; obtain ⟨A6, c6, rfl, hc6⟩ := (H6.rr 0 rfl).len)
                | ((with_reducible refine gStore ?_); refine wCell 22 (.slice A6 (cur.length + 1) c6) (by kernel_rfl) rfl rfl H6 1 (off := 2) rfl (Nat.le_refl 3) (mxC ((n : Int), (k : Int), A6, cur.length + 1, c6)) rfl _ _ rfl rfl rfl rfl ?_; clear H6; intro w7 H7; rw [show cur.length + 1 = (cur ++ [(1 : UInt8)]).length from by simp] at H7))
              go_roundw
              case rel => first | exact ⟨j + 1, _, _, _, by go_num, by omega, HST, H7⟩ | exact ⟨_, ⟨j + 1, _, _, _, by go_num, by omega, HST, H7⟩, rfl⟩
              case measure => simp [intOf] <;> omega
            · have e1 : ((i : Int) == (j : Int)) = false := beq_eq_false_iff_ne.mpr (by omega)
              rw [codeF, if_pos hik, unitF, if_neg hab] at hst
              have HST := Lib.hid hst
              clear hst hab
              have k2 : World.cell? _ ⟨w1.heap.size, 2, none⟩ = some (.slice A cur.length cp) := (H.va 1 rfl).cell 2
              go_wp2_with (first
                | (at_builtin; refine wAppLit sB [0] #[.int .u8 0] rfl (by simp) 1 rfl H 0 rfl (by have := HCL.out; show (cur.length + 1) * 1 ≤ _; omega) _ _ rfl rfl rfl rfl ?_; clear H k2; intro v6 w6 H6; obtain ⟨A6, c6, rfl, hc6⟩ := (H6.rr 0 rfl).len)
                | ((with_reducible refine gStore ?_); refine wCell 22 (.slice A6 (cur.length + 1) c6) (by kernel_rfl) rfl rfl H6 1 (off := 2) rfl (Nat.le_refl 3) (mxC ((n : Int), (k : Int), A6, cur.length + 1, c6)) rfl _ _ rfl rfl rfl rfl ?_; clear H6; intro w7 H7; rw [show cur.length + 1 = (cur ++ [(0 : UInt8)]).length from by simp] at H7))
              go_roundw
              case rel => first | exact ⟨j + 1, _, _, _, by go_num, by omega, HST, H7⟩ | exact ⟨_, ⟨j + 1, _, _, _, by go_num, by omega, HST, H7⟩, rfl⟩
              case measure => simp [intOf] <;> omega
          · have hk1 : decide ((k : Int) ≤ (i : Int)) = true := by simp; omega
            have hk2 : ((k : Int) ≤ (i : Int)) = True := eq_true (by omega)
            have e1 : ((i : Int) == (j : Int)) = false := beq_eq_false_iff_ne.mpr (by omega)
            obtain ⟨hx, hlt⟩ := xor_small i j (by omega) (by omega)
            have hw : IntKind.u8.wrap ((i ^^^ j : Nat) : Int) = ((UInt8.ofNat (i ^^^ j)).toNat : Int) := by
              rw [UInt8.toNat_ofNat', Nat.mod_eq_of_lt (by omega), IntKind.wrap_u8]; omega
            have cI : ∀ W, ∃ E, Calls Try.prog 57 #[.int .u8 ((UInt8.ofNat (i ^^^ j)).toNat : Int)] W fun e w' => e = .returned (.tuple #[.int .u8 ((codeF k i j).toNat : Int), .int .i64 E]) ∧ Below W.heap.size W w' := fun W => ⟨_, by rw [codeF, if_neg hik, finv0_eq]; exact RInverse_any _ W⟩
            generalize codeF k i j = x at cI hst
            generalize UInt8.ofNat (i ^^^ j) = y at *
            generalize i ^^^ j = z at *
            have HST := Lib.hid hst
            clear hst hlt
            go_wp2_with (first
              | (go_at_call 57; obtain ⟨E, hE⟩ := cI _; (with_reducible refine hE.mono ?_); rintro e w5 ⟨rfl, hb5⟩; have H5 := H.step hb5; clear H hb5; have k2 : w5.cell? ⟨w1.heap.size, 2, none⟩ = some (.slice A cur.length cp) := (H5.va 1 rfl).cell 2)
              | (at_builtin; refine wAppLit sB [x] #[.int .u8 (x.toNat : Int)] rfl (by simp) 1 rfl H5 0 rfl (by have := HCL.out; show (cur.length + 1) * 1 ≤ _; omega) _ _ rfl rfl rfl rfl ?_; clear H5 k2; intro v6 w6 H6; obtain ⟨A6, c6, rfl, hc6⟩ := (H6.rr 0 rfl).len)
              | ((with_reducible refine gStore ?_); refine wCell 22 (.slice A6 (cur.length + 1) c6) (by kernel_rfl) rfl rfl H6 1 (off := 2) rfl (Nat.le_refl 3) (mxC ((n : Int), (k : Int), A6, cur.length + 1, c6)) rfl _ _ rfl rfl rfl rfl ?_; clear H6; intro w7 H7; rw [show cur.length + 1 = (cur ++ [x]).length from by simp] at H7))
            go_roundw
            case rel => first | exact ⟨j + 1, _, _, _, by go_num, by omega, HST, H7⟩ | exact ⟨_, ⟨j + 1, _, _, _, by go_num, by omega, HST, H7⟩, rfl⟩
            case measure => simp [intOf] <;> omega
        · obtain rfl : j = k := by omega
          have hcur := HC.out
          rw [← fillL_succ] at hcur
          subst hcur
          clear HC
          go_wp2
          go_roundw
          case rel => first | exact ⟨i + 1, _, _, by go_num, by omega, H⟩ | exact ⟨_, ⟨i + 1, _, _, by go_num, by omega, H⟩, rfl⟩
          case measure => simp [intOf] <;> omega
    · obtain rfl : i = n := by omega
      go_wp2_with (first
        | ((with_reducible refine gLoad ?_); refine wLoad rxT ((i : Int), (k : Int), A, (fillL i k (codeF k)).length, cp) HS 1 rfl rfl _ rfl rfl rfl ?_)
        | ((with_reducible refine gStore ?_); refine wStore rxT ((i : Int), (k : Int), A, (fillL i k (codeF k)).length, cp) HS 2 rfl rfl _ _ rfl rfl rfl rfl ?_; clear HS; intro w5 H))
      refine bodyPost_ret (results_cell_tmp rfl _ (H.va 2 rfl) rfl _ Try.underlying38 rfl (rxT.sz _)) rfl ?_
      exact ⟨A, cp, rfl, H.orow 0 rfl, H.below⟩
theorem rCode_bad (k n : Int) (w : World) (h : k < 1 ∨ n < k ∨ 32 < n) : Calls Try.prog 27 #[.int .i64 k, .int .i64 n] w fun e w' => e = .returned (.tuple #[.agg (rxT.enc rxT.zero).toArray, .int .i64 1]) ∧ Below w.heap.size w w' := by
  have H0 := SH.start Nil w
  have hd : (decide (k < 1) = true) ∨ (decide (k < 1) = false ∧ decide (n < k) = true) ∨ (decide (k < 1) = false ∧ decide (n < k) = false ∧ decide (32 < n) = true) := by simp; omega
  clear h
  rcases hd with d1 | ⟨d1, d2⟩ | ⟨d1, d2, d3⟩
  all_goals
    go_enter Try.func27, Try.ntmps27
    go_wp2_with (first
      | ((with_reducible refine gAlloc ?_); refine wAlloc rxT H0 rfl rfl ?_; clear H0; intro w1 H1)
      | ((with_reducible refine gBuild ?_); refine wZero rxT rfl rfl ?_)
      | ((with_reducible refine gStore ?_); refine wStore rxT rxT.zero H1 0 rfl rfl _ _ rfl rfl rfl rfl ?_; clear H1; intro w5 H))
    refine bodyPost_ret (results_cell_tmp rfl _ (H.va 0 rfl) rfl _ Try.underlying38 rfl (rxT.sz _)) rfl ?_
    exact ⟨rfl, H.below⟩
end Go.Proofs.Ytfnneneaalaagaa

namespace Go.Proofs.Ytfnneneaalaagaa
set_option maxRecDepth 100000
open Go.RowKit
set_option linter.unusedSimpArgs false
set_option linter.unusedVariables false

def scaleM (M : List (List UInt8)) (n c : Nat) : List (List UInt8) := M.set n ((M.getD n []).map fun x => fmul x (finv0 ((M.getD n []).getD c 0)))
def elimK (M : List (List UInt8)) (n c : Nat) : Nat → List (List UInt8)
  | 0 => M
  | k + 1 => if k = n then elimK M n c k else (elimK M n c k).set k (List.zipWith (addF (((elimK M n c k).getD k []).getD c 0)) ((elimK M n c k).getD k []) ((elimK M n c k).getD n []))
def clrStep (r cc : Nat) (s : List (List UInt8) × Nat) (c : Nat) : List (List UInt8) × Nat :=
  if s.2 < r then
    if nzI ((colL s.1.flatten r cc c).drop s.2) < 0 then s
    else (elimK (scaleM (swapM s.1 s.2 (s.2 + (nzI ((colL s.1.flatten r cc c).drop s.2)).toNat)) s.2 c) s.2 c r, s.2 + 1)
  else s
/-- Behind so many columns. -/
def clr (r cc : Nat) (M : List (List UInt8)) : Nat → List (List UInt8) × Nat
  | 0 => (M, 0)
  | c + 1 => clrStep r cc (clr r cc M c) c
theorem Mat.swap {M : List (List UInt8)} {r c : Nat} (h : Mat M r c) {i j : Nat} (hi : i < r) (hj : j < r) : Mat (swapM M i j) r c := (h.set i _ (h.get hj)).set j _ (h.get hi)
theorem Mat.scale {M : List (List UInt8)} {r c : Nat} (h : Mat M r c) {n : Nat} (hn : n < r) (k : Nat) : Mat (scaleM M n k) r c := h.set n _ (by rw [List.length_map]; exact h.get hn)
theorem Mat.elim {M : List (List UInt8)} {r c : Nat} (h : Mat M r c) {n : Nat} (hn : n < r) (k : Nat) : ∀ i, i ≤ r → Mat (elimK M n k i) r c
  | 0, _ => h
  | i + 1, hi => by
    have ih := h.elim hn k i (by omega)
    rw [elimK]
    split
    · exact ih
    · exact ih.set i _ (by rw [List.length_zipWith, ih.get hn, ih.get (by omega)]; exact Nat.min_self _)
theorem colL_of {M : List (List UInt8)} {r c : Nat} (h : Mat M r c) (j : Nat) : (colL M.flatten r c j).length = r := colL_len _ _ _ _
theorem Mat.step {s : List (List UInt8) × Nat} {r c : Nat} (h : Mat s.1 r c) (hs : s.2 ≤ r) (k : Nat) : Mat (clrStep r c s k).1 r c ∧ (clrStep r c s k).2 ≤ r ∧ s.2 ≤ (clrStep r c s k).2 := by
  unfold clrStep
  split
  · rename_i hn
    split
    · exact ⟨h, hs, Nat.le_refl _⟩
    · rename_i hp
      have hr := nzI_range ((colL s.1.flatten r c k).drop s.2)
      rw [List.length_drop, colL_of h] at hr
      exact ⟨((h.swap hn (by omega)).scale hn k).elim hn k r (Nat.le_refl _), hn, Nat.le_succ _⟩
  · exact ⟨h, hs, Nat.le_refl _⟩
theorem Mat.clr {M : List (List UInt8)} {r c : Nat} (h : Mat M r c) : ∀ k, Mat (Go.Proofs.Ytfnneneaalaagaa.clr r c M k).1 r c ∧ (Go.Proofs.Ytfnneneaalaagaa.clr r c M k).2 ≤ r
  | 0 => ⟨h, Nat.zero_le _⟩
  | k + 1 => by
    have ih := h.clr k
    have := Mat.step ih.1 ih.2 k
    exact ⟨this.1, this.2.1⟩
theorem clr_stop (r c : Nat) (M : List (List UInt8)) (k : Nat) (h : ¬ (clr r c M k).2 < r) : ∀ d, clr r c M (k + d) = clr r c M k
  | 0 => rfl
  | d + 1 => by rw [← Nat.add_assoc, clr, clr_stop r c M k h d, clrStep, if_neg h]
theorem VA.rb {w : World} {g : Nat} {M : List (List UInt8)} {tail : List Value} {t : TypeId} (h : VA w g t (mcells M tail)) (n cp : Nat) (hn : M.flatten.length = n) (hc : n ≤ cp) (hm : n ≤ 1000000) : RB w (.slice (some ⟨g, 0, none⟩) n cp) M.flatten := by
  subst hn
  refine ⟨_, _, rfl, hc, by omega, fun _ => ⟨_, rfl, fun j u hu => ?_⟩⟩
  rw [addr_add, Nat.zero_add, h.cell, mcells]
  rw [U8_all] at hu
  rw [List.getElem?_append_left (List.getElem?_eq_some_iff.1 hu).1]
  exact hu
set_option maxHeartbeats 3200000 in
set_option maxRecDepth 100000 in
theorem clear_any (M : List (List UInt8)) (tail : List Value) (r c cols g cp : Nat) (t : TypeId) (w : World) (hM : Mat M r c) (hv : VA w g t (mcells M tail)) (hc : 0 < c) (hr : r ≤ 64) (hc2 : c ≤ 64) (hcols : cols ≤ c) (hcp : r * c ≤ cp) :
    Calls Try.prog 60 #[.agg (mxT.enc ((r : Int), (c : Int), some ⟨g, 0, none⟩, r * c, cp)).toArray, .int .i64 (cols : Int)] w fun e w' => e = .returned (.int .i64 ((clr r c M cols).2 : Int)) ∧ SH (fun k => k = g) w w' [.blk g t (mcells (clr r c M cols).1 tail)] := by
  have H0 := SH.block hv
  obtain ⟨n, hn⟩ : ∃ n, n = r * c := ⟨_, rfl⟩
  have hn2 : n ≤ 64 * 64 := by rw [hn]; exact Nat.mul_le_mul hr hc2
  have cR := fun (W : World) (q : Nat) (hq : q < r) => row_blk (r : Int) c q g n cp W hc (by rw [hn]; exact row_in hq) (by omega) (by omega)
  have cC := fun (N : List (List UInt8)) (hN : Mat N r c) (W : World) (j : Nat) (hj : j < c) (hb : RB W (.slice (some ⟨g, 0, none⟩) n cp) N.flatten) => column_any N.flatten r c j ⟨g, 0, none⟩ cp W (by rw [← hn]; exact hb) hN.flat hr hc2 hj hcp
  have cS := fun (N : List (List UInt8)) (hN : Mat N r c) (W : World) (h : VA W g t (mcells N tail)) (i j : Nat) (hi : i < r) (hj : j < r) => swap_any N tail r c i j g cp t W hN h hi hj hc hr hc2 hcp
  have hcp2 : n ≤ cp := by omega
  rw [← hn] at cC cS ⊢
  have CR := Lib.hid cR
  have CC := Lib.hid cC
  have CS := Lib.hid cS
  have HM := Lib.hid hM
  have HA := Lib.hid (addr_add g)
  have HN := Lib.hid hn
  have hci : (c : Int) ≤ 64 := by omega
  have hri : (r : Int) ≤ 64 := by omega
  have hcoi : (cols : Int) ≤ 64 := by omega
  clear cR cC cS hv hn hcp hM
  go_enter Try.func60, Try.ntmps60
  go_wp2_with (first
    | ((with_reducible refine gBox ?_); refine wBox mxT ((r : Int), (c : Int), some ⟨g, 0, none⟩, n, cp) H0 _ rfl rfl rfl ?_; clear H0; intro w1 H1))
  go_loopw [5, 6] (fun v5 v6 wr => ∃ k : Nat, v6 = .int .i64 (k : Int) ∧ k ≤ cols ∧ v5 = .int .i64 ((clr r c M k).2 : Int) ∧ SH (fun k => k = g) w wr [.blk w.heap.size 32 (mxC ((r : Int), (c : Int), some ⟨g, 0, none⟩, n, cp)), .blk g t (mcells (clr r c M k).1 tail)]) (fun _ v _ => cols - (intOf v).toNat)
  case atStart => exact ⟨0, rfl, by omega, rfl, H1⟩
  case round =>
    obtain ⟨k, rfl, hk, rfl, HS⟩ := hrel
    clear H1
    have k0 : wr.cell? ⟨w.heap.size, 0, none⟩ = some (.int .i64 (r : Int)) := (HS.va 0 rfl).cell 0
    by_cases hkc : k < cols
    · have hki : decide ((k : Int) < (cols : Int)) = true := by simp; omega
      obtain ⟨hMk, hnk⟩ := HM.out.clr k
      have hstep : clr r c M (k + 1) = clrStep r c (clr r c M k) k := rfl
      have hstop := clr_stop r c M k
      obtain ⟨s, hs⟩ : ∃ s, s = clr r c M k := ⟨_, rfl⟩
      rw [← hs] at hMk hnk hstep hstop HS ⊢
      obtain ⟨N, q⟩ := s
      simp only at hMk hnk hstep hstop HS ⊢
      by_cases hqr : q < r
      · have hqi : decide ((q : Int) < (r : Int)) = true := by simp; omega
        have hqi2 : (q : Int) < (r : Int) := by omega
        have hrb := VA.rb (HS.va 1 rfl) n cp (hMk.flat.trans HN.out.symm) hcp2 (by omega)
        have cX0 := CC.out N hMk wr k (by omega) hrb
        have hXl := colL_of hMk k
        rw [clrStep, if_pos hqr] at hstep
        obtain ⟨X, hX⟩ : ∃ X, X = colL N.flatten r c k := ⟨_, rfl⟩
        rw [← hX] at cX0 hXl hstep
        have cX : Calls Try.prog 66 #[.agg (mxT.enc ((r : Int), (c : Int), some ⟨g, 0, none⟩, n, cp)).toArray, .int .i64 (k : Int)] wr fun e w' => ∃ A c5, e = .returned (.slice A r c5) ∧ r ≤ c5 ∧ OB w' wr.heap.size (.slice A r c5) X ∧ Below wr.heap.size wr w' := cX0.mono fun e w' ⟨v, h1, h2, h3⟩ => by
          obtain ⟨A, c5, rfl, h4⟩ := h2.reads.len
          rw [hXl] at h1 h2 h4
          exact ⟨A, c5, h1, h4, h2, h3⟩
        have hcut : ∀ A c5 W, r ≤ c5 → RB W (.slice A r c5) X → ∃ A6, (∀ W', (Instr.slice 22 (.slice A r c5) (some (.int .i64 (q : Int))) none none).run Try.prog W' = .ok (.slice A6 (r - q) (c5 - q)) W') ∧ RB W (.slice A6 (r - q) (c5 - q)) (X.drop q) := fun A c5 W h1 h2 => by
          rw [← hXl] at h1 h2 ⊢
          obtain ⟨A6, _, h3, _, h4⟩ := cutB A c5 X q X.length (by omega) (Nat.le_refl _) h1
          have h5 := h4 W h2
          rw [List.take_of_length_le (Nat.le_refl _)] at h5
          exact ⟨A6, fun W' => h3 .i64 W' rfl, h5⟩
        have cI := fun W v h => idx_any v (X.drop q) W h (by rw [List.length_drop]; omega)
        have hpr := nzI_range (X.drop q)
        rw [List.length_drop, hXl] at hpr
        have HCUT := Lib.hid hcut
        generalize nzI (X.drop q) = p at cI hpr hstep
        clear hX cX0 hcut hrb hstop hs hXl
        by_cases hp0 : p < 0
        · obtain rfl : p = -1 := by omega
          rw [if_pos hp0] at hstep
          have HST := Lib.hid hstep
          clear hstep hp0 hpr k0
          have k0 : wr.cell? ⟨w.heap.size, 0, none⟩ = some (.int .i64 (r : Int)) := (HS.va 0 rfl).cell 0
          go_wp2_with (first
            | ((with_reducible refine gLoad ?_); refine wLoad mxT ((r : Int), (c : Int), some ⟨g, 0, none⟩, n, cp) HS 0 rfl rfl _ rfl rfl rfl ?_)
            | (go_at_call 66; (with_reducible refine cX.mono ?_); rintro e w5 ⟨A5, c5, rfl, hc5, ho, hb⟩; obtain ⟨A6, hk6, hr6⟩ := HCUT.out _ _ _ hc5 ho.reads; have H5 := HS.step hb; clear HS hb ho cX k0)
            | (go_at_call 74; (with_reducible refine (cI _ _ hr6).mono ?_); rintro e w6 ⟨rfl, rfl⟩))
          go_roundw
          case rel => first | exact ⟨k + 1, by go_num, by omega, by rw [HST.out], by rw [HST.out]; exact H5⟩ | exact ⟨_, _, ⟨k + 1, by go_num, by omega, by rw [HST.out], by rw [HST.out]; exact H5⟩, rfl, rfl⟩
          case measure => simp [intOf] <;> omega
        · obtain ⟨P, rfl⟩ : ∃ P : Nat, p = P := ⟨p.toNat, by omega⟩
          rw [if_neg hp0, Int.toNat_natCast] at hstep
          have hqP : q + P < r := by omega
          have hP0 : (0 : Int) ≤ (P : Int) := by omega
          have hPi : (P : Int) ≤ 64 := by omega
          have cW : ∀ W, VA W g t (mcells N tail) → Calls Try.prog 76 #[.agg (mxT.enc ((r : Int), (c : Int), some ⟨g, 0, none⟩, n, cp)).toArray, .int .i64 (q : Int), .int .i64 ((q : Int) + (P : Int))] W fun e w' => e = .returned (.tuple #[]) ∧ SH (fun k => k = g) W w' [.blk g t (mcells (swapM N q (q + P)) tail)] := fun W h => by
            have := CS.out N hMk W h q (q + P) hqr hqP
            push_cast at this
            exact this
          have hM1 := hMk.swap hqr hqP
          obtain ⟨N1, hN1⟩ : ∃ N1, N1 = swapM N q (q + P) := ⟨_, rfl⟩
          rw [← hN1] at cW hM1 hstep
          have hM2 := hM1.scale hqr k
          have hl1 := hM1.get hqr
          have hat := hM1.at_ hqr (show k < c by omega) tail
          have hsc : ∀ W, VA W g t (mcells N1 tail) → Calls Try.prog 77 #[.slice (some ⟨g, q * c, none⟩) c c, .int .u8 ((finv0 ((N1.getD q []).getD k 0)).toNat : Int)] W fun e w' => e = .returned (.tuple #[]) ∧ SH (fun k => k = g) W w' [.blk g t (mcells (scaleM N1 q k) tail)] := fun W h => by
            have := scale_any g (q * c) c t (mcells N1 tail) (N1.getD q []) (finv0 ((N1.getD q []).getD k 0)) W h (by rw [hl1]; exact hM1.rowAt hqr tail) (by omega) (by omega)
            rw [hl1, hM1.lay hqr tail _ (by rw [List.length_map]; exact hl1)] at this
            exact this
          have hinv : ∀ W, ∃ E, Calls Try.prog 56 #[.int .u8 (((N1.getD q []).getD k 0).toNat : Int)] W fun e w' => e = .returned (.tuple #[.int .u8 ((finv0 ((N1.getD q []).getD k 0)).toNat : Int), .int .i64 E]) ∧ W = w' := fun W => ⟨_, (FInverse_any _ W).mono fun e w' ⟨h1, h2⟩ => ⟨by rw [h1, finv0], h2.symm⟩⟩
          generalize (N1.getD q []).getD k 0 = x at hat hsc hinv
          generalize finv0 x = xf at hsc hinv
          obtain ⟨N2, hN2⟩ : ∃ N2, N2 = scaleM N1 q k := ⟨_, rfl⟩
          rw [← hN2] at hsc hM2 hstep
          have cQ := fun W => CR.out W q hqr
          have hadd := HA.out (q * c) k
          have HAT := Lib.hid hat
          have HST := Lib.hid hstep
          have HM2 := Lib.hid hM2
          have hkc2 : (k : Int) < (c : Int) := by omega
          clear hstep hp0 hpr k0 hat hN1 hN2 hM1 hM2 hl1 hMk CS CC
          have k0 : wr.cell? ⟨w.heap.size, 0, none⟩ = some (.int .i64 (r : Int)) := (HS.va 0 rfl).cell 0
          go_wp2_with (first
            | ((with_reducible refine gLoad ?_); refine wLoad mxT ((r : Int), (c : Int), some ⟨g, 0, none⟩, n, cp) HS 0 rfl rfl _ rfl rfl rfl ?_)
            | ((with_reducible refine gLoad ?_); refine wLoad mxT ((r : Int), (c : Int), some ⟨g, 0, none⟩, n, cp) H5 0 rfl rfl _ rfl rfl rfl ?_)
            | ((with_reducible refine gLoad ?_); refine wLoad mxT ((r : Int), (c : Int), some ⟨g, 0, none⟩, n, cp) H6 0 rfl rfl _ rfl rfl rfl ?_)
            | (go_at_call 66; (with_reducible refine cX.mono ?_); rintro e w5 ⟨A5, c5, rfl, hc5, ho, hb⟩; obtain ⟨A6, hk6, hr6⟩ := HCUT.out _ _ _ hc5 ho.reads; have H5 := HS.step hb; clear HS hb ho cX k0)
            | (go_at_call 74; (with_reducible refine (cI _ _ hr6).mono ?_); rintro e w6 ⟨rfl, rfl⟩)
            | (go_at_call 76; (with_reducible refine (cW _ (H5.va 1 rfl)).mono ?_); rintro e w7 ⟨rfl, k7⟩; have H6 := H5.via 1 rfl k7; clear H5 k7 hr6 hk6)
            | (go_at_call 51; (with_reducible refine (cQ _).mono ?_); rintro e w8 ⟨rfl, hb⟩; have H7 := H6.step hb; clear H6 hb; have hcl : w8.cell? ⟨g, q * c + k, none⟩ = some (.int .u8 (x.toNat : Int)) := ((H7.va 1 rfl).cell _).trans HAT.out)
            | (go_at_call 56; obtain ⟨E, hE⟩ := hinv w8; (with_reducible refine hE.mono ?_); rintro e w9 ⟨rfl, rfl⟩)
            | (go_at_call 77; (with_reducible refine (hsc _ (H7.va 1 rfl)).mono ?_); rintro e w10 ⟨rfl, k10⟩; have H8 := H7.via 1 rfl k10; clear H7 k10 hcl; have k0 : w10.cell? ⟨w.heap.size, 0, none⟩ = some (.int .i64 (r : Int)) := (H8.va 0 rfl).cell 0))
          clear k0
          go_loopw [53] (fun v53 wr => ∃ i : Nat, v53 = .int .i64 (i : Int) ∧ i ≤ r ∧ SH (fun k => k = g) w wr [.blk w.heap.size 32 (mxC ((r : Int), (c : Int), some ⟨g, 0, none⟩, n, cp)), .blk g t (mcells (elimK N2 q k i) tail)]) (fun v _ => r - (intOf v).toNat)
          case atStart => exact ⟨0, rfl, by omega, H8⟩
          case round =>
            obtain ⟨i, rfl, hi, HE⟩ := hrel
            clear H8
            by_cases hir : i < r
            · have hii : (i : Int) < (r : Int) := by omega
              have hE := HM2.out.elim hqr k i hi
              have hek : elimK N2 q k (i + 1) = _ := elimK.eq_2 N2 q k i
              by_cases hiq : i = q
              · have hiqb : ((i : Int) != (q : Int)) = false := by simp [hiq]
                have hiqc : ((i : Int) == (q : Int)) = true := by simp [hiq]
                rw [if_pos hiq] at hek
                have HEK := Lib.hid hek
                clear hek hiq hE
                go_wp2
                go_roundw
                case rel => first | exact ⟨i + 1, by go_num, by omega, by rw [HEK.out]; exact HE⟩ | exact ⟨_, ⟨i + 1, by go_num, by omega, by rw [HEK.out]; exact HE⟩, rfl⟩
                case measure => simp [intOf] <;> omega
              · have hiqb : ((i : Int) != (q : Int)) = true := by simp; omega
                have hiqc : ((i : Int) == (q : Int)) = false := by simp; omega
                rw [if_neg hiq] at hek
                have hli := hE.get hir
                have hlq := hE.get hqr
                have hat := hE.at_ hir (show k < c by omega) tail
                have hdis : i * c + c ≤ q * c ∨ q * c + c ≤ i * c := by
                  rcases Nat.lt_or_ge i q with h | h
                  · left; have := Nat.mul_le_mul_right c (show i + 1 ≤ q from h); rw [Nat.add_mul, Nat.one_mul] at this; exact this
                  · right; have := Nat.mul_le_mul_right c (show q + 1 ≤ i by omega); rw [Nat.add_mul, Nat.one_mul] at this; exact this
                have cA : ∀ W, VA W g t (mcells (elimK N2 q k i) tail) → Calls Try.prog 78 #[.slice (some ⟨g, i * c, none⟩) c c, .slice (some ⟨g, q * c, none⟩) c c, .int .u8 ((((elimK N2 q k i).getD i []).getD k 0).toNat : Int)] W fun e w' => e = .returned (.tuple #[]) ∧ SH (fun k => k = g) W w' [.blk g t (mcells (elimK N2 q k (i + 1)) tail)] := fun W h => by
                  have := add_any g (i * c) (q * c) c c t (mcells (elimK N2 q k i) tail) ((elimK N2 q k i).getD i []) ((elimK N2 q k i).getD q []) (((elimK N2 q k i).getD i []).getD k 0) W h (by omega) (by rw [hli]; exact hE.rowAt hir tail) (by rw [hlq]; exact hE.rowAt hqr tail) (by omega) (by omega) (by rw [hlq]; exact hdis)
                  rw [hlq, hE.lay hir tail _ (by rw [List.length_zipWith, hli, hlq]; exact Nat.min_self _), ← hek] at this
                  exact this
                have cI2 := fun W => CR.out W i hir
                have hadd2 := HA.out (i * c) k
                obtain ⟨N4, hN4⟩ : ∃ N4, N4 = elimK N2 q k (i + 1) := ⟨_, rfl⟩
                rw [← hN4] at cA
                have HN4 := Lib.hid hN4
                generalize ((elimK N2 q k i).getD i []).getD k 0 = z at cA hat
                have H := HE.drew
                have HS0 : VA wr.drew w.heap.size 32 (mxC ((r : Int), (c : Int), some ⟨g, 0, none⟩, n, cp)) ∧ wr.drew.cell? ⟨g, i * c + k, none⟩ = some (.int .u8 (z.toNat : Int)) := ⟨H.va 0 rfl, ((H.va 1 rfl).cell _).trans hat⟩
                have HAT2 := Lib.hid hat
                clear hat hek hN4 hE hli hlq hdis HE hiq
                go_wp2
                refine startL (fun w' => VA w' w.heap.size 32 (mxC ((r : Int), (c : Int), some ⟨g, 0, none⟩, n, cp)) ∧ w'.cell? ⟨g, i * c + k, none⟩ = some (.int .u8 (z.toNat : Int))) (fun i => i == 10) (by kernel_rfl) ?_
                refine takeL 0 HS0 rfl (by kernel_rfl) (by kernel_rfl) (by kernel_rfl) (by kernel_rfl) (by kernel_rfl) (fun _ _ _ h => h) rfl (v := ?_) ?_ ?_
                rotate_left
                · intro w' hw'; refine Eq.trans (exec_load 32 _ rfl w.heap.size 0 rfl (mxT.enc ((r : Int), (c : Int), some ⟨g, 0, none⟩, n, cp)) _ (VA.all hw'.1) Try.underlying32 rfl (mxT.sz _)) ?_; with_reducible rfl
                (try simp only [Act.put, List.setIfInBounds_toArray, List.set_cons_zero, List.set_cons_succ])
                refine takeP 1 rfl (by kernel_rfl) (by kernel_rfl) (by kernel_rfl) (by kernel_rfl) (fun _ _ _ h => h) rfl (v := ?_) ?_ ?_
                rotate_left
                · intro w'; go_simp; (try with_reducible rfl)
                (try simp only [Act.put, List.setIfInBounds_toArray, List.set_cons_zero, List.set_cons_succ])
                refine takeP 3 rfl (by kernel_rfl) (by kernel_rfl) (by kernel_rfl) (by kernel_rfl) (fun _ _ _ h => h) rfl (v := ?_) ?_ ?_
                rotate_left
                · intro w'; go_simp; (try with_reducible rfl)
                (try simp only [Act.put, List.setIfInBounds_toArray, List.set_cons_zero, List.set_cons_succ])
                refine takeL 4 HS0 rfl (by kernel_rfl) (by kernel_rfl) (by kernel_rfl) (by kernel_rfl) (by kernel_rfl) (fun _ _ _ h => h) rfl (v := ?_) ?_ ?_
                rotate_left
                · intro w' hw'; refine Eq.trans (exec_load 32 _ rfl w.heap.size 0 rfl (mxT.enc ((r : Int), (c : Int), some ⟨g, 0, none⟩, n, cp)) _ (VA.all hw'.1) Try.underlying32 rfl (mxT.sz _)) ?_; with_reducible rfl
                (try simp only [Act.put, List.setIfInBounds_toArray, List.set_cons_zero, List.set_cons_succ])
                refine takeP 5 rfl (by kernel_rfl) (by kernel_rfl) (by kernel_rfl) (by kernel_rfl) (fun _ _ _ h => h) rfl (v := ?_) ?_ ?_
                rotate_left
                · intro w'; go_simp; (try with_reducible rfl)
                (try simp only [Act.put, List.setIfInBounds_toArray, List.set_cons_zero, List.set_cons_succ])
                refine takeP 7 rfl (by kernel_rfl) (by kernel_rfl) (by kernel_rfl) (by kernel_rfl) (fun _ _ _ h => h) rfl (v := ?_) ?_ ?_
                rotate_left
                · intro w'; go_simp; (try with_reducible rfl)
                (try simp only [Act.put, List.setIfInBounds_toArray, List.set_cons_zero, List.set_cons_succ])
                refine stepL 2 rfl (by kernel_rfl) rfl (fun K hK => ?_)
                (go_simp; (with_reducible refine (cI2 _).mono ?_); rintro e w5 ⟨rfl, hb⟩; replace H := H.step hb; have HS1 : VA w5 w.heap.size 32 (mxC ((r : Int), (c : Int), some ⟨g, 0, none⟩, n, cp)) ∧ w5.cell? ⟨g, i * c + k, none⟩ = some (.int .u8 (z.toNat : Int)) := ⟨H.va 0 rfl, ((H.va 1 rfl).cell _).trans HAT2.out⟩; refine hK.out _ _ (fun _ _ => HS1) ?_; clear K hK HS0 hb; have HS0 := HS1; clear HS1)
                (try simp only [Act.put, List.setIfInBounds_toArray, List.set_cons_zero, List.set_cons_succ])
                refine stepL 6 rfl (by kernel_rfl) rfl (fun K hK => ?_)
                (go_simp; (with_reducible refine (cI2 _).mono ?_); rintro e w6 ⟨rfl, hb⟩; replace H := H.step hb; have HS1 : VA w6 w.heap.size 32 (mxC ((r : Int), (c : Int), some ⟨g, 0, none⟩, n, cp)) ∧ w6.cell? ⟨g, i * c + k, none⟩ = some (.int .u8 (z.toNat : Int)) := ⟨H.va 0 rfl, ((H.va 1 rfl).cell _).trans HAT2.out⟩; refine hK.out _ _ (fun _ _ => HS1) ?_; clear K hK HS0 hb; have HS0 := HS1; clear HS1)
                (try simp only [Act.put, List.setIfInBounds_toArray, List.set_cons_zero, List.set_cons_succ])
                refine takeP 8 rfl (by kernel_rfl) (by kernel_rfl) (by kernel_rfl) (by kernel_rfl) (fun _ _ _ h => h) rfl (v := ?_) ?_ ?_
                rotate_left
                · intro w'; go_simp; (try with_reducible rfl)
                (try simp only [Act.put, List.setIfInBounds_toArray, List.set_cons_zero, List.set_cons_succ])
                refine takeL 9 HS0 rfl (by kernel_rfl) (by kernel_rfl) (by kernel_rfl) (by kernel_rfl) (by kernel_rfl) (fun _ _ _ h => h) rfl (v := ?_) ?_ ?_
                rotate_left
                · intro w' hw'; have kz := hw'.2; clear hw'; go_simp; (try with_reducible rfl)
                (try simp only [Act.put, List.setIfInBounds_toArray, List.set_cons_zero, List.set_cons_succ])
                refine stepL 10 rfl (by kernel_rfl) rfl (fun K hK => ?_)
                (go_simp; (with_reducible refine (cA _ (H.va 1 rfl)).mono ?_); rintro e w7 ⟨rfl, k7⟩; have H9 := H.via 1 rfl k7; refine hK.out _ _ (fun h => by cases h) ?_; clear K hK HS0 k7)
                (try simp only [Act.put, List.setIfInBounds_toArray, List.set_cons_zero, List.set_cons_succ])
                refine doneL (by kernel_rfl) ?_
                go_wp2
                go_roundw
                case rel => first | exact ⟨i + 1, by go_num, by omega, by rw [← HN4.out]; exact H9⟩ | exact ⟨_, ⟨i + 1, by go_num, by omega, by rw [← HN4.out]; exact H9⟩, rfl⟩
                case measure => simp [intOf] <;> omega
            · obtain rfl : i = r := by omega
              go_wp2
              go_roundw
              case rel => first | exact ⟨k + 1, by go_num, by omega, by rw [HST.out]; go_num, by rw [HST.out]; exact HE⟩ | exact ⟨_, _, ⟨k + 1, by go_num, by omega, by rw [HST.out]; go_num, by rw [HST.out]; exact HE⟩, rfl, rfl⟩
              case measure => simp [intOf] <;> omega
      · have hqi : decide ((q : Int) < (r : Int)) = false := by simp; omega
        have hst := hstop hqr (cols - k)
        rw [Nat.add_sub_cancel' hk] at hst
        have HST := Lib.hid hst
        clear hst hstep hstop hs
        go_wp2
        go_ret
        exact ⟨by rw [HST.out]; rfl, by rw [HST.out]; exact HS.tail⟩
    · obtain rfl : k = cols := by omega
      have hki : decide ((k : Int) < (k : Int)) = false := by simp
      go_wp2
      go_ret
      exact ⟨rfl, HS.tail⟩
end Go.Proofs.Ytfnneneaalaagaa

namespace Go.Proofs.Ytfnneneaalaagaa
set_option maxRecDepth 100000
open Go.RowKit

theorem hid_out {p : Prop} (h : Go.RowKit.Hid p) : p := h
set_option maxHeartbeats 400000 in
theorem grown_any (v : Value) (xs : List UInt8) (room : Nat) (w : World) (hv : RB w v xs) (hl : xs.length ≤ 16777216) (hr : room ≤ 100) :
    Calls Try.prog 68 #[v, .int .i64 (room : Int)] w fun e w' => ∃ v', e = .returned v' ∧ OB w' w.heap.size v' xs ∧ Below w.heap.size w w' := by
  obtain ⟨A, c, rfl, hc, hm, hcell⟩ := hv
  obtain ⟨i0, hi, hz0, hz1, hz2⟩ := info_parts Try.info_u8
  have hmk : (Instr.makeSlice 22 (.int .i64 (xs.length : Int)) (.int .i64 ((xs.length : Int) + (room : Int)))).run Try.prog w = .ok (.slice (some ⟨w.heap.size, 0, none⟩) xs.length (xs.length + room)) (w.alloc (.cells (madeCells #[.int .u8 0] (xs.length + room)) 5)) := by
    have h := run_make (P := Try.prog) w 22 5 i0 (.int .u8 0) Try.underlying22 hi hz0 .i64 .i64 (xs.length : Int) ((xs.length : Int) + (room : Int)) (by omega) (by omega) (by rw [hz2]; omega) (by omega)
    have e1 : ((xs.length : Int)).toNat = xs.length := by omega
    have e2 : ((xs.length : Int) + (room : Int)).toNat = xs.length + room := by omega
    rw [e1, e2, hz1, Nat.mul_one] at h
    exact h
  have hcs : ((B8).all xs).length = Nat.min xs.length xs.length := by rw [Ty.all_length]; simp [show B8.sz = 1 from rfl]
  have HK : Go.RowKit.Hid ((madeCells #[.int .u8 0] (xs.length + room)).toList = List.replicate (xs.length + room) (.int .u8 0)) := toList_madeCells_one _ _
  have HG : Go.RowKit.Hid ((w.alloc (.cells (madeCells #[.int .u8 0] (xs.length + room)) 5)).heap[w.heap.size]? = some (.cells (List.replicate (xs.length + room) (.int .u8 0)).toArray 5 (0, 0))) := by
    show _ = _
    rw [heap_alloc_new, ← toList_madeCells_one]
  have HS : Go.RowKit.Hid (0 < ((B8).all xs).length → (some ⟨w.heap.size, 0, none⟩ : Option Addr) = some ⟨w.heap.size, 0, none⟩ ∧ ∃ ad, A = some ad ∧ ∀ j v, ((B8).all xs)[j]? = some v → (w.alloc (.cells (madeCells #[.int .u8 0] (xs.length + room)) 5)).cell? (ad.add j) = some v) := by
    intro hp
    rw [Ty.all_length] at hp; simp only [show B8.sz = 1 from rfl, Nat.mul_one] at hp
    obtain ⟨ad, rfl, hcc⟩ := hcell hp
    exact ⟨rfl, ad, rfl, fun j u hu => cell_below ((Below.refl _ _).alloc (Nat.le_refl _) _) (hcc j u hu)⟩
  have HF : 0 + ((B8).all xs).length ≤ (List.replicate (xs.length + room) (Value.int .u8 0)).length := by rw [Ty.all_length]; simp [show B8.sz = 1 from rfl]
  have HO : ∀ u ∈ B8.all xs, u.oneCell' = true := Ty.all_oneCell xs
  have HL : (B8.all xs).length = xs.length := by rw [Ty.all_length]; simp [show B8.sz = 1 from rfl]
  have HL' := Lib.hid HL
  clear HL
  go_enter Try.func68, Try.ntmps68
  go_wp2_with (refine wpList_copy_splice rfl (.tmp 13) (.tmp 14) _ _ rfl 5 Try.underlying22 (by kernel_rfl) _ _ _ _ _ _ rfl rfl w.heap.size 0 (List.replicate (xs.length + room) (.int .u8 0)) 5 (by exact HG.out) ((B8).all xs) hcs (by exact HS.out) (by exact HF) (by exact HO) w.heap.size w (by exact (Below.refl _ _).alloc (Nat.le_refl _) _) (Nat.le_refl _) ?_; intro w1 hg1 hb1)
  go_ret
  refine ⟨_, rfl, ⟨?_, .inr ⟨w.heap.size, xs.length + room, _, rfl, Nat.le_refl _, hg1.out, by omega, by simp [maxLen]; omega, ?_, ?_⟩⟩, hb1⟩
  · rw [Ty.all_length]
  · rw [List.size_toArray, length_splice _ _ _ (by rw [HL'.out]; simp)]; simp [show B8.sz = 1 from rfl]
  · simp [splice, show B8.sz = 1 from rfl, HL'.out]

set_option maxHeartbeats 400000 in
set_option maxRecDepth 100000 in
theorem Put_any (v : Value) (xs : List UInt8) (n : Nat) (w : World) (hv : RB w v xs) (hl : xs.length ≤ 16777216) (hn : W64 n) :
    Calls Try.prog 39 #[v, .int .u64 (n : Int)] w fun e w' => ∃ v', e = .returned v' ∧ OB w' w.heap.size v' (xs ++ putL n) ∧ Below w.heap.size w w' := by
  go_enter Try.func39, Try.ntmps39
  go_wp2_with (go_at_call 68; refine (grown_any v xs 10 _ hv hl (by omega)).mono ?_; rintro e w1 ⟨v1, rfl, ho1, hb1⟩)
  go_loopw [5, 1] (fun v5 v1 wr => ∃ (pre : List UInt8) (m : Nat), v1 = .int .u64 (m : Int) ∧ OB wr w.heap.size v5 (xs ++ pre) ∧ Below w.heap.size w wr ∧ pre ++ putL m = putL n) (fun _ i _ => (intOf i).toNat)
  case atStart => exact ⟨[], n, rfl, by simpa using ho1, hb1, rfl⟩
  case round =>
    obtain ⟨pre, m, rfl, ho, hb, hp⟩ := hrel
    have HP := Lib.hid hp
    clear hp
    have hB : w.heap.size ≤ wr.heap.size := hb.size
    have hlen : (xs ++ pre).length ≤ 1000000000 := by have h1 := congrArg List.length HP.out; have h2 := putL_len64 n hn; simp at h1 ⊢; omega
    by_cases h128 : 128 ≤ m
    · have h128' : (128 : Int) ≤ (m : Int) := by omega
      go_wp2_with (at_builtin; refine appB w.heap.size (.tmp 12) (.tmp 16) _ _ (UInt8.ofNat (m % 128 + 128)) _ ho hb hB hlen (or128 m) rfl rfl rfl rfl ?_; intro v2 w2 ho2 hb2 hg2 hat2 hs2)
      go_roundw
      case rel => exact ⟨pre ++ [UInt8.ofNat (m % 128 + 128)], m / 128, by go_num, by rw [← List.append_assoc]; exact ho2, hb2, by rw [← HP.out, putL.eq_1 m, if_neg (by omega), List.append_assoc]; rfl⟩
      case measure => simp [intOf]; omega
    · have h128' : (m : Int) < 128 := by omega
      go_wp2_with (at_builtin; refine appB w.heap.size (.tmp 18) (.tmp 21) _ _ (UInt8.ofNat m) _ ho hb hB hlen (by first | exact low8 m | exact low8' m (by omega)) rfl rfl rfl rfl ?_; intro v2 w2 ho2 hb2 hg2 hat2 hs2)
      go_ret
      exact ⟨_, rfl, by rw [← HP.out, putL.eq_1 m, if_pos (by omega), ← List.append_assoc]; exact ho2, hb2⟩

theorem drewB {B : Nat} {w w1 : World} (h : Below B w w1) : Below B w w1.drew := h.drew
theorem RB.drew {w : World} {v : Value} {xs : List UInt8} (h : RB w v xs) : RB w.drew v xs := h.below (Below.refl _ _).drew
theorem OB.drew {w : World} {base : Nat} {v : Value} {xs : List UInt8} (h : OB w base v xs) : OB w.drew base v xs := OR.below h (Below.refl _ _).drew

set_option maxHeartbeats 400000 in
theorem Clone_any (v : Value) (xs : List UInt8) (w : World) (hv : RB w v xs) (hl : xs.length ≤ 1000000000) :
    Calls Try.prog 46 #[v] w fun e w' => ∃ v', e = .returned v' ∧ OB w' w.heap.size v' xs ∧ Below w.heap.size w w' := by
  have hq := fun (w : World) (a : Option Addr) (n c n2 c2 : Nat) => Lib.run_eql_slice_nil (P := Try.prog) w 22 5 a n c n2 c2 Try.underlying22
  obtain ⟨A, c, rfl, hc, hm, hcell⟩ := id hv
  cases A with
  | none =>
    have h0 : xs.length = 0 := by
      rcases Nat.eq_zero_or_pos xs.length with h | h
      · exact h
      · obtain ⟨ad, h, _⟩ := hcell h; cases h
    obtain rfl := List.eq_nil_of_length_eq_zero h0
    go_enter Try.func46, Try.ntmps46
    go_wp2
    go_ret
    exact ⟨_, rfl, OR.nil _ _, Below.refl _ _⟩
  | some ad =>
    clear hcell
    have hb1 : Below w.heap.size w (w.alloc (.cells #[] 5)) := (Below.refl _ _).alloc (Nat.le_refl _) _
    have ho1 : OB (w.alloc (.cells #[] 5)) w.heap.size (.slice (some ⟨w.heap.size, 0, none⟩) 0 0) [] := OB.lit w w.heap.size [] #[] rfl (Nat.le_refl _) (by simp)
    have hr1 := hv.below hb1
    go_enter Try.func46, Try.ntmps46
    go_wp2_with (at_builtin; refine appBs w.heap.size (.tmp 5) (.tmp 6) _ _ [] xs ho1 hr1 hb1 (by simp) (by simp) hl rfl rfl rfl rfl ?_; intro v2 w2 ho2 hb2 hg2 hat2 hs2)
    go_ret
    exact ⟨_, rfl, by simpa using ho2, hb2⟩

theorem W64_len {xs : List UInt8} (h : xs.length ≤ 16777216) : W64 xs.length := by unfold W64; omega

set_option maxHeartbeats 400000 in
theorem isShort_any (i : Nat) (c : UInt8) (w : World) :
    Calls Try.prog 69 #[.int .i64 (i : Int), .int .u8 (c.toNat : Int)] w fun e w' => e = .returned (.bool (shortB i c)) ∧ w' = w := by
  have e1 : ((i : Int) == 0) = (i == 0) := by rw [Bool.eq_iff_iff]; simp
  have e2 : ((c.toNat : Int) != 0) = (c != 0) := by rw [Bool.eq_iff_iff]; simp [← UInt8.toNat_inj]
  have e3 : ((c.toNat : Int) == 1) = (c == 1) := by rw [Bool.eq_iff_iff]; simp [← UInt8.toNat_inj]; omega
  have e4 : decide ((i : Int) < 9) = decide (i < 9) := by rw [Bool.eq_iff_iff]; simp; omega
  unfold shortB
  cases h1 : (i == 0) <;> cases h2 : (c != 0) <;> cases h3 : (c == 1) <;> cases h4 : decide (i < 9) <;>
  (rw [h1] at e1; rw [h2] at e2; rw [h3] at e3; rw [h4] at e4
   go_enter Try.func69, Try.ntmps69
   go_wp2
   go_ret
   exact ⟨rfl, rfl⟩)

set_option maxHeartbeats 400000 in
theorem TakeBytes_any (v : Value) (xs : List UInt8) (n : Int) (w : World) (hv : RB w v xs) (hl : xs.length ≤ 1000000000) :
    Calls Try.prog 70 #[v, .int .i64 n] w fun e w' => ∃ v1 v2, e = .returned (.tuple #[v1, v2, .int .i64 (if n < 0 then 1 else if n ≤ xs.length then 0 else 2)]) ∧
      OB w' w.heap.size v1 (if n < 0 then [] else if n ≤ xs.length then xs.take n.toNat else []) ∧ OB w' w.heap.size v2 (if n < 0 then [] else if n ≤ xs.length then xs.drop n.toNat else []) ∧ (v1.ownBlock = none ∨ v1.ownBlock ≠ v2.ownBlock) ∧ Below w.heap.size w w' := by
  obtain ⟨A, c, rfl, hc⟩ := hv.len
  by_cases h0 : n < 0
  · rw [if_pos h0, if_pos h0, if_pos h0]
    go_enter Try.func70, Try.ntmps70
    go_wp2
    go_ret3
    exact ⟨_, _, rfl, OR.nil _ _, OR.nil _ _, (.inl rfl), Below.refl _ _⟩
  · rw [if_neg h0, if_neg h0, if_neg h0]
    have h0' : 0 ≤ n := by omega
    by_cases h1 : n ≤ xs.length
    · rw [if_pos h1, if_pos h1, if_pos h1]
      obtain ⟨m, rfl⟩ := Int.eq_ofNat_of_zero_le h0'
      have hm : m ≤ xs.length := by omega
      obtain ⟨A1, hcut1, hcut2, hcut3, hr1⟩ := cutB A c xs 0 m (by omega) hm hc
      obtain ⟨A2, hcut4, hcut5, hcut6, hr2⟩ := cutB A c xs m xs.length hm (Nat.le_refl _) hc
      have hk1 := fun W => hcut3 .i64 W rfl
      have hk2 := fun W => hcut5 .i64 W rfl
      have hq1 := hr1 w hv
      have hq2 := hr2 w hv
      simp only [Nat.sub_zero, List.drop_zero] at hq1
      rw [List.take_of_length_le (Nat.le_refl _)] at hq2
      clear hcut1 hcut2 hcut3 hcut4 hcut5 hcut6 hr1 hr2
      go_enter Try.func70, Try.ntmps70
      go_wp2
      go_region_held3 (fun _ => True) (trivial) (first
        | (go_at_call 46; refine (Clone_any _ (xs.take m) _ (RB.drew hq1) (by simp; omega)).mono ?_; rintro e w1 ⟨v1, rfl, ho1, hb1⟩)
        | (go_at_call 46; refine (Clone_any _ (xs.drop m) _ ((RB.drew hq2).below hb1) (by simp; omega)).mono ?_; rintro e w2 ⟨v2, rfl, ho2, hb2⟩)
        | fail)
      go_wp2
      go_ret3
      exact ⟨v1, v2, rfl, OR.below ho1 hb2, OR.lower ho2 hb1.size, OR.apart ho1 ho2, below_two (drewB (Below.refl _ _) |>.trans hb1) hb1.size hb2⟩
    · rw [if_neg h1, if_neg h1, if_neg h1]
      have h1' : (xs.length : Int) < n := by omega
      go_enter Try.func70, Try.ntmps70
      go_wp2
      go_ret3
      exact ⟨_, _, rfl, OR.nil _ _, OR.nil _ _, (.inl rfl), Below.refl _ _⟩

end Go.Proofs.Ytfnneneaalaagaa

namespace Go.Proofs.Ytfnneneaalaagaa
set_option maxRecDepth 100000
open Go.RowKit
set_option linter.unusedSimpArgs false
set_option linter.unusedVariables false

/-- A row of bytes, as the block that it begins. -/
theorem SH.toBlk {F : Nat → Prop} {w0 w : World} {L : List Own} (h : SH F w0 w L) (i : Nat) {v : Value} {xs : List UInt8} (hi : L[i]? = some (.row B8 v xs)) (hp : 0 < xs.length) :
    ∃ g cap tail, v = .slice (some ⟨g, 0, none⟩) xs.length cap ∧ xs.length ≤ cap ∧ SH F w0 w (L.set i (.blk g 5 (xs.map cb ++ tail))) := by
  have ho := h.or0 i hi
  rcases ho.2 with ⟨h1, h2⟩ | ⟨g, cap, cur, rfl, _, hg, h1, h2, h3, h4⟩
  · omega
  · have e : cur.toList = xs.map cb ++ cur.toList.drop xs.length := by
      rw [U8_all] at h4
      have h5 : cur.toList.take xs.length = xs.map cb := by simpa [U8] using h4
      rw [← h5, List.take_append_drop]
    refine ⟨g, cap, cur.toList.drop xs.length, rfl, h1, h.change i hi (Chg.refl _ w) _ ?_ (fun b hb => .inl ?_)⟩
    · show w.heap[g]? = _
      rw [hg, ← e]; rfl
    · show Value.ownBlock _ = some b
      rw [show b = g from hb]; rfl
def rowsL (l : List UInt8) (r c : Nat) : List (List UInt8) := (List.range r).map fun i => (l.drop (i * c)).take c
theorem rowsL_flat (l : List UInt8) (c : Nat) : ∀ r, (rowsL l r c).flatten = l.take (r * c)
  | 0 => by simp [rowsL]
  | r + 1 => by
    have ih := rowsL_flat l c r
    rw [rowsL, List.range_succ, List.map_append, List.flatten_append]
    rw [rowsL] at ih
    rw [ih, Nat.add_mul, Nat.one_mul, List.take_add]
    simp
theorem rowsL_mat (l : List UInt8) (r c : Nat) (h : l.length = r * c) : Mat (rowsL l r c) r c ∧ (rowsL l r c).flatten = l := by
  refine ⟨⟨by simp [rowsL], fun x hx => ?_⟩, by rw [rowsL_flat, List.take_of_length_le (by omega)]⟩
  simp only [rowsL, List.mem_map, List.mem_range] at hx
  obtain ⟨i, hi, rfl⟩ := hx
  have := row_in (c := c) hi
  rw [Nat.add_mul, Nat.one_mul] at this
  rw [List.length_take, List.length_drop]
  omega
def rankI (r c : Int) (l : List UInt8) : Nat := if mayB r c l.length = true then (clr r.toNat c.toNat (rowsL l r.toNat c.toNat) c.toNat).2 else 0
theorem mayB_ok {r c : Int} {n : Nat} (h : mayB r c n = true) : ∃ a b : Nat, r = a ∧ c = b ∧ 1 ≤ a ∧ a ≤ 32 ∧ 1 ≤ b ∧ b ≤ 32 ∧ n = a * b := by
  unfold mayB at h
  split at h
  · rename_i h1
    split at h
    · rename_i h2
      have h3 := (sizeB_iff r).1 h1
      have h4 := (sizeB_iff c).1 h2
      obtain ⟨a, rfl⟩ : ∃ a : Nat, r = a := ⟨r.toNat, by omega⟩
      obtain ⟨b, rfl⟩ : ∃ b : Nat, c = b := ⟨c.toNat, by omega⟩
      refine ⟨a, b, rfl, rfl, by omega, by omega, by omega, by omega, ?_⟩
      have := eq_of_beq h
      exact_mod_cast this
    · cases h
  · cases h
set_option maxHeartbeats 1600000 in
set_option maxRecDepth 100000 in
theorem Rank_any (r c : Int) (A : Option Addr) (cp : Nat) (l : List UInt8) (w : World) (hv : RB w (.slice A l.length cp) l) (hl : l.length ≤ 100000) :
    Calls Try.prog 31 #[.agg (mxT.enc (r, c, A, l.length, cp)).toArray] w fun e w' => e = .returned (.int .i64 (rankI r c l : Int)) ∧ Below w.heap.size w w' := by
  have H0 := SH.start Nil w
  have cM := fun W => MMay_any r c A l.length cp W
  cases hm : mayB r c l.length with
  | false =>
    have hr : rankI r c l = 0 := by rw [rankI, hm]; rfl
    rw [hr]
    rw [hm] at cM
    have CM := Lib.hid cM
    clear cM hm hr hv
    go_enter Try.func31, Try.ntmps31
    go_wp2_with (first
      | ((with_reducible refine gBox ?_); refine wBox mxT (r, c, A, l.length, cp) H0 _ rfl rfl rfl ?_; clear H0; intro w1 H1)
      | ((with_reducible refine gLoad ?_); refine wLoad mxT (r, c, A, l.length, cp) H1 0 rfl rfl _ rfl rfl rfl ?_)
      | (go_at_call 37; (with_reducible refine (CM.out _).mono ?_); rintro e w2 ⟨rfl, hb⟩; have H2 := H1.step hb; clear H1 hb))
    go_ret
    exact ⟨rfl, H2.below⟩
  | true =>
    obtain ⟨a, b, rfl, rfl, ha, ha2, hb, hb2, hn⟩ := mayB_ok hm
    obtain ⟨hM, hF⟩ := rowsL_mat l a b hn
    have hr : rankI a b l = (clr a b (rowsL l a b) b).2 := by rw [rankI, hm]; rfl
    rw [hm] at cM
    have cC := Clone_any (.slice A l.length cp) l
    have hp : 0 < l.length := by rw [hn]; exact Nat.mul_pos (by omega) (by omega)
    have cL := fun (W : World) (g cap : Nat) (tail : List Value) (h : VA W g 5 (mcells (rowsL l a b) tail)) (hc : a * b ≤ cap) => clear_any (rowsL l a b) tail a b b g cap 5 W hM h (by omega) (by omega) (by omega) (Nat.le_refl _) hc
    rw [← hn] at cL
    have HR := Lib.hid hr
    have CM := Lib.hid cM
    have CC := Lib.hid cC
    have CL := Lib.hid cL
    have HF := Lib.hid hF
    clear cM cC cL hr hm hn hM hF
    go_enter Try.func31, Try.ntmps31
    go_wp2_with (first
      | ((with_reducible refine gBox ?_); refine wBox mxT ((a : Int), (b : Int), A, l.length, cp) H0 _ rfl rfl rfl ?_; clear H0; intro w1 H1)
      | ((with_reducible refine gLoad ?_); refine wLoad mxT ((a : Int), (b : Int), A, l.length, cp) H1 0 rfl rfl _ rfl rfl rfl ?_)
      | (go_at_call 37; (with_reducible refine (CM.out _).mono ?_); rintro e w2 ⟨rfl, hb⟩; have H2 := H1.step hb; clear H1 hb; have k2 : w2.cell? ⟨w.heap.size, 2, none⟩ = some (.slice A l.length cp) := (H2.va 0 rfl).cell 2)
      | (go_at_call 46; (with_reducible refine (CC.out _ (hv.below H2.below) (by omega)).mono ?_); rintro e w3 ⟨v3, rfl, ho, hb⟩; have H3 := H2.pushRow hb ho; clear H2 hb ho k2; obtain ⟨g, cap, tail, rfl, hcap, H4⟩ := H3.toBlk 0 rfl hp; clear H3)
      | ((with_reducible refine gStore ?_); refine wCell 22 (.slice (some ⟨g, 0, none⟩) l.length cap) (by kernel_rfl) rfl rfl H4 1 (off := 2) rfl (Nat.le_refl 3) (mxC ((a : Int), (b : Int), some ⟨g, 0, none⟩, l.length, cap)) rfl _ _ rfl rfl rfl rfl ?_; clear H4; intro w4 H5; have k1 : w4.cell? ⟨w.heap.size, 1, none⟩ = some (.int .i64 (b : Int)) := (H5.va 1 rfl).cell 1)
      | ((with_reducible refine gLoad ?_); refine wLoad mxT ((a : Int), (b : Int), some ⟨g, 0, none⟩, l.length, cap) H5 1 rfl rfl _ rfl rfl rfl ?_)
      | (go_at_call 60; (with_reducible refine (CL.out _ g cap tail (by rw [mcells, HF.out]; exact H5.va 0 rfl) hcap).mono ?_); rintro e w5 ⟨rfl, k5⟩; have H6 := H5.via 0 rfl k5; clear H5 k5 k1))
    go_ret
    exact ⟨by rw [HR.out]; rfl, H6.below⟩
end Go.Proofs.Ytfnneneaalaagaa

namespace Go.Proofs.Ytfnneneaalaagaa
set_option maxRecDepth 100000
open Go.RowKit

end Go.Proofs.Ytfnneneaalaagaa

namespace Go.Proofs.Ytfnneneaalaagaa
set_option maxRecDepth 100000
open Go.RowKit

set_option maxHeartbeats 800000 in
set_option maxRecDepth 100000 in
theorem Take_any (v : Value) (xs : List UInt8) (w : World) (hv : RB w v xs) (hl : xs.length ≤ 1000000000) :
    Calls Try.prog 44 #[v] w fun e w' => ∃ v', e = .returned (.tuple #[.int .u64 (tkN xs : Int), v', .int .i64 (tkE xs : Int)]) ∧ OB w' w.heap.size v' (tkR xs) ∧ Below w.heap.size w w' := by
  obtain ⟨A, c, rfl, hc, _, hcell⟩ := id hv
  obtain ⟨m, hm⟩ : ∃ m, m = min xs.length 10 := ⟨_, rfl⟩
  have hmin : (if (10 : Int) < (xs.length : Int) then (10 : Int) else (xs.length : Int)) = (m : Int) := by split <;> omega
  have hml : m ≤ xs.length := by omega
  have hm10 : m ≤ 10 := by omega
  have HM := Lib.hid hm
  clear hm
  obtain ⟨A1, hcut1, hcut2, hcut3, hr1⟩ := cutB A c xs 0 m (by omega) hml hc
  have hk1 := fun W => hcut3 .i64 W rfl
  have hq1 := hr1 w hv
  simp only [Nat.sub_zero, List.drop_zero] at hq1
  clear hcut1 hcut2 hcut3 hr1
  go_enter Try.func44, Try.ntmps44
  go_wp2
  go_loopw [5, 14] (fun v5 v14 wr => ∃ (acc k : Nat) (x : Int), v5 = .int .u64 x ∧ v14 = .int .i64 (k : Int) ∧ k ≤ m ∧ (k ≤ 9 → x = acc) ∧ acc < 128 ^ k ∧ wr = w ∧ tkGo (10 - k) k acc (xs.drop k) = tk xs) (fun _ i _ => m - (intOf i).toNat)
  case atStart => exact ⟨0, 0, 0, rfl, rfl, Nat.zero_le _, fun _ => rfl, by simp, rfl, rfl⟩
  case round =>
    obtain ⟨acc, k, x, rfl, rfl, hk, hx, ha, rfl, ht⟩ := hrel
    by_cases hkm : k < m
    · obtain rfl := hx (by omega)
      clear hx
      obtain ⟨ad, rfl, hcc⟩ := hq1.at_ k (by simp; omega)
      have hxk : k < xs.length := by omega
      have hcx := hcc 0 (cb xs[k]) (by simp [U8])
      simp only [show B8.sz = 1 from rfl, Nat.mul_one, Nat.add_zero] at hcx
      rw [List.drop_eq_getElem_cons hxk, show 10 - k = (10 - (k + 1)) + 1 by omega, tkGo] at ht
      generalize hck : xs[k] = ck at hcx ht
      clear hck hcc
      have hand := and128 ck
      have hnot := andNot128 ck
      have hkm' : (k : Int) < (m : Int) := by omega
      by_cases h128 : ck.toNat < 128
      · rw [if_pos h128] at hand ht
        obtain ⟨A2, hcut4, hcut5, hcut6, hr2⟩ := cutB A c xs (k + 1) xs.length (by omega) (Nat.le_refl _) hc
        have hk2 := fun W => hcut5 .i64 W rfl
        have hq2 := hr2 _ hv
        rw [List.take_of_length_le (Nat.le_refl _)] at hq2
        clear hcut4 hcut5 hcut6 hr2
        simp only [Int.natCast_add, Int.natCast_one] at hk2
        by_cases hsh : shortB k ck = true
        · rw [if_pos hsh] at ht
          have HSH := Lib.hid hsh
          have HT := Lib.hid ht
          clear ht
          go_wp2_with (first
            | (go_at_call 69; refine (isShort_any k ck _).mono ?_; rintro e w1 ⟨rfl, rfl⟩)
            | (go_at_call 46; refine (Clone_any _ (xs.drop (k + 1)) _ hq2 (by simp; omega)).mono ?_; rintro e w2 ⟨v2, rfl, ho2, hb2⟩))
          go_ret3
          have hE : tkE xs = 0 := by unfold tkE; rw [← HT.out]
          have hN : tkN xs = acc + ck.toNat * 128 ^ k := by unfold tkN; rw [← HT.out]
          have hR : tkR xs = xs.drop (k + 1) := by unfold tkR; rw [if_pos hE, ← HT.out]
          have hs2 := HSH.out
          unfold shortB at hs2
          simp only [Bool.or_eq_true, beq_iff_eq, Bool.and_eq_true, bne_iff_ne, decide_eq_true_eq] at hs2
          have h9 : k ≤ 8 ∨ (k = 9 ∧ ck.toNat % 128 ≤ 1) := by
            rcases hs2 with h | ⟨_, h | h⟩
            · omega
            · omega
            · subst h; have : (1 : UInt8).toNat = 1 := rfl; omega
          have hv64 := or64 acc k ck.toNat h9 ha
          rw [Nat.mod_eq_of_lt h128] at hv64
          refine ⟨v2, ?_, by rw [hR]; exact ho2, hb2⟩
          rw [hE, hN, ← hv64]
          rfl
        · rw [if_neg hsh] at ht
          have hsh' : shortB k ck = false := by simpa using hsh
          clear hsh
          have HT := Lib.hid ht
          clear ht
          go_wp2_with (first
            | (go_at_call 69; refine (isShort_any k ck _).mono ?_; rintro e w1 ⟨rfl, rfl⟩))
          go_ret3
          have hE : tkE xs = 3 := by unfold tkE; rw [← HT.out]
          have hN : tkN xs = 0 := by unfold tkN; rw [← HT.out]
          have hR : tkR xs = [] := by unfold tkR; rw [if_neg (by omega)]
          rw [hE, hN, hR]
          exact ⟨_, rfl, OR.nil _ _, Below.refl _ _⟩
      · rw [if_neg h128] at hand ht
        have HT := Lib.hid ht
        clear ht
        go_wp2
        go_roundw
        case rel =>
          have hlt := ck.toNat_lt
          refine ⟨acc + ck.toNat % 128 * 128 ^ k, k + 1, _, rfl, by go_num, by omega, fun h9 => ?_, ?_, (by first | trivial | rfl), HT.out⟩
          · exact or64 acc k ck.toNat (by omega) ha
          · rw [Nat.pow_succ]
            have h2 : ck.toNat % 128 * 128 ^ k ≤ 127 * 128 ^ k := Nat.mul_le_mul_right _ (by omega)
            omega
        case measure => simp [intOf]; omega
    · have hkm' : (m : Int) ≤ (k : Int) := by omega
      obtain rfl : k = m := by omega
      clear hx hkm ha
      have hM := HM.out
      by_cases h10 : 10 ≤ xs.length
      · obtain rfl : k = 10 := by omega
        have h10' : (10 : Int) ≤ (xs.length : Int) := by omega
        clear hM
        have HT := Lib.hid ht
        clear ht
        go_wp2
        go_ret3
        have hE : tkE xs = 3 := by unfold tkE; rw [← HT.out]; rfl
        have hN : tkN xs = 0 := by unfold tkN; rw [← HT.out]; rfl
        have hR : tkR xs = [] := by unfold tkR; rw [if_neg (by omega)]
        rw [hE, hN, hR]
        exact ⟨_, rfl, OR.nil _ _, Below.refl _ _⟩
      · have h10' : (xs.length : Int) < 10 := by omega
        rw [List.drop_of_length_le (by omega), show 10 - k = (9 - k) + 1 by omega, tkGo] at ht
        have HT := Lib.hid ht
        clear ht hM
        go_wp2
        go_ret3
        have hE : tkE xs = 2 := by unfold tkE; rw [← HT.out]
        have hN : tkN xs = 0 := by unfold tkN; rw [← HT.out]
        have hR : tkR xs = [] := by unfold tkR; rw [if_neg (by omega)]
        rw [hE, hN, hR]
        exact ⟨_, rfl, OR.nil _ _, Below.refl _ _⟩

end Go.Proofs.Ytfnneneaalaagaa

namespace Go.Proofs.Ytfnneneaalaagaa
set_option maxRecDepth 100000
open Go.RowKit

theorem tkR_le (xs : List UInt8) : (tkR xs).length ≤ xs.length := by unfold tkR; split <;> simp

end Go.Proofs.Ytfnneneaalaagaa

namespace Go.Proofs.Ytfnneneaalaagaa
set_option maxRecDepth 100000
open Go.RowKit

set_option maxHeartbeats 400000 in
set_option maxRecDepth 100000 in
theorem rPut_any (v : Value) (xs : List UInt8) (n : Nat) (w : World) (hv : RB w v xs) (hl : xs.length ≤ 16777216) (hn : W64 n) :
    Calls Try.prog 41 #[v, .int .u64 (n : Int)] w fun e w' => ∃ v', e = .returned v' ∧ OB w' w.heap.size v' (xs ++ putL n) ∧ Below w.heap.size w w' := by
  have hl' : xs.length ≤ 1000000000 := by omega
  have hb0 : Below w.heap.size w (w.alloc (.cells #[] 5)) := (Below.refl _ _).alloc (Nat.le_refl _) _
  have ho0 : OB (w.alloc (.cells #[] 5)) w.heap.size (.slice (some ⟨w.heap.size, 0, none⟩) 0 0) [] := OB.lit w w.heap.size [] #[] rfl (Nat.le_refl _) (by simp)
  have hr0 := hv.below hb0
  go_enter Try.func41, Try.ntmps41
  go_wp2_with (at_builtin; refine appBs w.heap.size (.tmp 6) (.tmp 7) _ _ [] xs ho0 hr0 hb0 (by simp) (by simp) hl' rfl rfl rfl rfl ?_; intro v1 w1 ho1 hb1 hg1 hat1 hs1)
  rw [List.nil_append] at ho1
  go_loopw [5, 1] (fun v5 v1 wr => ∃ (pre : List UInt8) (m : Nat), v1 = .int .u64 (m : Int) ∧ m ≤ n ∧ OB wr w.heap.size v5 (xs ++ pre) ∧ Below w.heap.size w wr ∧ pre ++ putL m = putL n) (fun _ i _ => (intOf i).toNat)
  case atStart => exact ⟨[], n, rfl, Nat.le_refl _, by simpa using ho1, hb1, rfl⟩
  case round =>
    obtain ⟨pre, m, rfl, hmn, ho, hb, hp⟩ := hrel
    have hwq : IntKind.u64.wrap ((m : Int) / 128) = (m : Int) / 128 := by unfold W64 at hn; simp only [IntKind.wrap, IntKind.bits, IntKind.signed, Bool.false_and, Bool.false_eq_true, if_false]; omega
    have HP := Lib.hid hp
    clear hp
    have hB : w.heap.size ≤ wr.heap.size := hb.size
    have hlen : (xs ++ pre).length ≤ 1000000000 := by have h1 := congrArg List.length HP.out; have h2 := putL_len64 n hn; simp at h1 ⊢; omega
    by_cases h128 : 128 ≤ m
    · have h128' : (128 : Int) ≤ (m : Int) := by omega
      go_wp2_with (at_builtin; go_loud (refine appB w.heap.size (.tmp 11) (.tmp 16) _ _ (UInt8.ofNat (m % 128 + 128)) _ ho hb hB hlen (by rw [UInt8.toNat_ofNat']; omega) rfl rfl rfl rfl ?_); intro v2 w2 ho2 hb2 hg2 hat2 hs2)
      go_roundw
      case rel => exact ⟨pre ++ [UInt8.ofNat (m % 128 + 128)], m / 128, by go_num, by omega, by rw [← List.append_assoc]; exact ho2, hb2, by rw [← HP.out, putL.eq_1 m, if_neg (by omega), List.append_assoc]; rfl⟩
      case measure => simp [intOf]; omega
    · have h128' : (m : Int) < 128 := by omega
      go_wp2_with (at_builtin; refine appB w.heap.size (.tmp 20) (.tmp 23) _ _ (UInt8.ofNat m) _ ho hb hB hlen (by first | exact low8 m | exact low8' m (by omega)) rfl rfl rfl rfl ?_; intro v2 w2 ho2 hb2 hg2 hat2 hs2)
      go_ret
      exact ⟨_, rfl, by rw [← HP.out, putL.eq_1 m, if_pos (by omega), ← List.append_assoc]; exact ho2, hb2⟩

/-- What reads so wherever the memory of w still stands. -/
def KB (w : World) (v : Value) (xs : List UInt8) : Prop := ∀ W, Below w.heap.size w W → RB W v xs
theorem KB.of {w : World} {v : Value} {xs : List UInt8} (h : RB w v xs) : KB w v xs := fun _ hb => h.below hb
theorem KB.nil (w : World) : KB w (.slice none 0 0) [] := fun _ _ => RR.nil _

end Go.Proofs.Ytfnneneaalaagaa

namespace Go.Proofs.Ytfnneneaalaagaa
set_option maxRecDepth 100000
open Go.RowKit

theorem strB {w : World} {v : Value} {xs : List UInt8} (h : RB w v xs) : (convert 22 9 v).run Try.prog w = .ok (.string (str xs)) w :=
  RR.string (P := Try.prog) h Try.underlying22 Try.underlying5 Try.underlying9

def nxt (acc k c : Nat) : Nat := (acc + c % 128 * 128 ^ k) % 18446744073709551616
theorem nxt_eq (acc k c : Nat) : IntKind.u64.wrap ((acc : Int) + IntKind.u64.wrap ((c : Int) % 128 * 2 ^ (7 * k))) = ((nxt acc k c : Nat) : Int) := by
  have hp : (2 : Nat) ^ (7 * k) = 128 ^ k := by rw [Nat.pow_mul]
  have e1 : ((c : Int) % 128 * 2 ^ (7 * k)) = ((c % 128 * 128 ^ k : Nat) : Int) := by
    rw [← hp]; simp
  rw [e1]
  unfold nxt
  generalize c % 128 * 128 ^ k = q
  simp only [IntKind.wrap, IntKind.bits, IntKind.signed, Bool.false_and, Bool.false_eq_true, if_false]
  omega
theorem nxt_w (acc k c : Nat) : W64 (nxt acc k c) := by unfold W64 nxt; exact Nat.mod_lt _ (by omega)

theorem short_iff (xs : List UInt8) (acc k : Nat) (c : UInt8) (hk : k < xs.length) (h10 : k < 10) (hc : xs[k] = c) (hlt : c.toNat < 128) (ht : tkGo (10 - k) k acc (xs.drop k) = tk xs) :
    (putL (nxt acc k c.toNat) = xs.take (k + 1) → tk xs = (0, nxt acc k c.toNat, k + 1)) ∧ (putL (nxt acc k c.toNat) ≠ xs.take (k + 1) → tk xs = (3, 0, 0)) := by
  rw [List.drop_eq_getElem_cons hk, show 10 - k = (10 - (k + 1)) + 1 by omega, tkGo, hc, if_pos hlt] at ht
  constructor
  · intro h
    have hx : xs = putL (nxt acc k c.toNat) ++ xs.drop (k + 1) := by rw [h, List.take_append_drop]
    have h1 := tk_put (nxt acc k c.toNat) (xs.drop (k + 1)) (nxt_w _ _ _)
    rw [← hx, h, List.length_take, Nat.min_eq_left (by omega)] at h1
    exact h1
  · intro h
    by_cases hs : shortB k c = true
    · rw [if_pos hs] at ht
      exfalso
      apply h
      have hE : tkE xs = 0 := by unfold tkE; rw [← ht]
      have hN : tkN xs = acc + c.toNat * 128 ^ k := by unfold tkN; rw [← ht]
      obtain ⟨h1, h2, h3⟩ := tk_ok xs hE
      have hn : nxt acc k c.toNat = tkN xs := by
        unfold nxt
        rw [Nat.mod_eq_of_lt (show c.toNat < 128 from hlt), ← hN]
        exact Nat.mod_eq_of_lt h2
      rw [hn]
      rw [← ht] at h3
      conv => rhs; rw [h1]
      simp only at h3
      rw [h3, List.take_left]
    · rw [if_neg hs] at ht
      exact ht.symm

set_option maxHeartbeats 1600000 in
set_option maxRecDepth 100000 in
theorem rTake_any (v : Value) (xs : List UInt8) (w : World) (hv : RB w v xs) (hl : xs.length ≤ 1000000000) :
    Calls Try.prog 47 #[v] w fun e w' => ∃ v', e = .returned (.tuple #[.int .u64 (tkN xs : Int), v', .int .i64 (tkE xs : Int)]) ∧ RB w' v' (tkR xs) ∧ Below w.heap.size w w' := by
  obtain ⟨A, c, rfl, hc, _, hcell⟩ := id hv
  go_enter Try.func47, Try.ntmps47
  go_wp2
  go_loopw [5, 6] (fun v5 v6 wr => ∃ (acc k : Nat) (x : Nat), v5 = .int .u64 (x : Int) ∧ v6 = .int .i64 (k : Int) ∧ k ≤ xs.length ∧ k ≤ 10 ∧ (k ≤ 9 → x = acc) ∧ acc < 128 ^ k ∧ wr = w ∧ tkGo (10 - k) k acc (xs.drop k) = tk xs) (fun _ i _ => 10 - (intOf i).toNat)
  case atStart => exact ⟨0, 0, 0, rfl, rfl, Nat.zero_le _, by omega, fun _ => rfl, by simp, rfl, rfl⟩
  case round =>
    obtain ⟨acc, k, x, rfl, rfl, hk, hk10, hx, ha, rfl, ht⟩ := hrel
    by_cases hkm : k < xs.length
    · have hkm' : (k : Int) < (xs.length : Int) := by omega
      by_cases h10 : k < 10
      · have h10' : (k : Int) < 10 := by omega
        obtain rfl := hx (by omega)
        clear hx
        obtain ⟨ad, rfl, hcc⟩ := hv.at_ k hkm
        have hcx := hcc 0 (cb xs[k]) (by simp [U8])
        simp only [show B8.sz = 1 from rfl, Nat.mul_one, Nat.add_zero] at hcx
        clear hcc hcell
        obtain ⟨ck, hck⟩ : ∃ ck, xs[k] = ck := ⟨_, rfl⟩
        rw [hck] at hcx
        have HCK := Lib.hid hck
        have hnx := nxt_eq x k ck.toNat
        have HT := Lib.hid ht
        clear hck ht
        have HX : Go.RowKit.Hid (nxt x k ck.toNat = nxt x k ck.toNat) := rfl
        by_cases h128 : ck.toNat < 128
        · have h128' : (ck.toNat : Int) < 128 := by omega
          have hsi := short_iff xs x k ck hkm h10 HCK.out h128 HT.out
          obtain ⟨A1, hcut1, hcut2, hcut3, hr1⟩ := cutB (some ad) c xs 0 (k + 1) (by omega) (by omega) hc
          obtain ⟨A2, hcut4, hcut5, hcut6, hr2⟩ := cutB (some ad) c xs (k + 1) xs.length (by omega) (Nat.le_refl _) hc
          have hk1 := fun W => hcut3 .i64 W rfl
          have hk2 := fun W => hcut5 .i64 W rfl
          simp only [Int.natCast_add, Int.natCast_one] at hk1 hk2
          have hq1 := hr1 _ hv
          have hq2 := hr2 _ hv
          simp only [Nat.sub_zero, List.drop_zero] at hq1
          rw [List.take_of_length_le (Nat.le_refl _)] at hq2
          clear hcut1 hcut2 hcut3 hcut4 hcut5 hcut6 hr1 hr2
          have hsum := i64w ((k : Int) + 1) (by omega) (by omega)
          have hst : ∀ W, Below wr.heap.size wr W → (convert 22 9 (.slice A1 (k + 1) c)).run Try.prog W = .ok (.string (str (xs.take (k + 1)))) W := fun W h => strB (hq1.below h)
          have hs0 := hst _ (Below.refl _ _).drew
          by_cases heq : putL (nxt x k ck.toNat) = xs.take (k + 1)
          · have htk := hsi.1 heq
            have hE : tkE xs = 0 := by unfold tkE; rw [htk]
            have hN : tkN xs = nxt x k ck.toNat := by unfold tkN; rw [htk]
            have hR : tkR xs = xs.drop (k + 1) := by unfold tkR; rw [if_pos hE, htk]
            have HEQ := Lib.hid heq
            have HE := Lib.hid hE
            have HN := Lib.hid hN
            have HR := Lib.hid hR
            clear hsi heq htk hE hN hR
            go_wp2
            go_region_with (first | (go_at_call 41; refine (rPut_any (.slice none 0 0) [] (nxt x k ck.toNat) _ (RR.nil _) (by simp) (nxt_w _ _ _)).mono ?_; rintro e w2 ⟨v2, rfl, ho2, hb2⟩; have hs2 := strB ho2.reads; have hs3 := hst _ ((Below.refl _ _).drew.trans hb2); rw [List.nil_append, HEQ.out] at hs2) | fail)
            all_goals
              go_wp2
              go_quiet (fail)
              go_wp2
              go_ret3
              refine ⟨_, ?_, by rw [HR.out]; exact hq2.below (pw_below_drewN ((Below.refl _ _).drew.trans hb2) _), pw_below_drewN ((Below.refl _ _).drew.trans hb2) _⟩
              rw [HE.out, HN.out]
              rfl
          · have htk := hsi.2 heq
            have hE : tkE xs = 3 := by unfold tkE; rw [htk]
            have hN : tkN xs = 0 := by unfold tkN; rw [htk]
            have hR : tkR xs = [] := by unfold tkR; rw [if_neg (by omega)]
            have hne : (putL (nxt x k ck.toNat) == xs.take (k + 1)) = false := by rw [beq_eq_false_iff_ne]; exact heq
            have HE := Lib.hid hE
            have HN := Lib.hid hN
            have HR := Lib.hid hR
            clear hsi heq htk hE hN hR
            go_wp2
            go_region_with (first | (go_at_call 41; refine (rPut_any (.slice none 0 0) [] (nxt x k ck.toNat) _ (RR.nil _) (by simp) (nxt_w _ _ _)).mono ?_; rintro e w2 ⟨v2, rfl, ho2, hb2⟩; have hs2 := strB ho2.reads; have hs3 := hst _ ((Below.refl _ _).drew.trans hb2); rw [List.nil_append] at hs2) | fail)
            all_goals
              go_wp2
              go_ret3
              rw [HE.out, HN.out, HR.out]
              exact ⟨_, rfl, RR.nil _, (Below.refl _ _).drew.trans hb2⟩
        · have h128' : (128 : Int) ≤ (ck.toNat : Int) := by omega
          have hlt := ck.toNat_lt
          go_wp2
          go_roundw
          case rel =>
            have ht := HT.out
            rw [List.drop_eq_getElem_cons hkm, show 10 - k = (10 - (k + 1)) + 1 by omega, tkGo, HCK.out, if_neg h128] at ht
            refine ⟨x + ck.toNat % 128 * 128 ^ k, k + 1, _, rfl, by go_num, by omega, by omega, fun h9 => ?_, ?_, (by first | trivial | rfl), ht⟩
            · unfold nxt
              refine Nat.mod_eq_of_lt ?_
              have h1 : (128 : Nat) ^ k ≤ 128 ^ 8 := Nat.pow_le_pow_right (by omega) (by omega)
              have h2 : ck.toNat % 128 * 128 ^ k ≤ 127 * 128 ^ 8 := Nat.mul_le_mul (by omega) h1
              have h8 : (128 : Nat) ^ 8 = 72057594037927936 := by decide
              omega
            · rw [Nat.pow_succ]
              have h2 : ck.toNat % 128 * 128 ^ k ≤ 127 * 128 ^ k := Nat.mul_le_mul_right _ (by omega)
              omega
          case measure => simp [intOf]; omega
      · have hE : tkE xs = 3 := by unfold tkE; rw [← ht, show 10 - k = 0 by omega]; rfl
        have hN : tkN xs = 0 := by unfold tkN; rw [← ht, show 10 - k = 0 by omega]; rfl
        have hR : tkR xs = [] := by unfold tkR; rw [if_neg (by omega)]
        have h10' : (10 : Int) ≤ (k : Int) := by omega
        have hl10 : (10 : Int) ≤ (xs.length : Int) := by omega
        have HE := Lib.hid hE
        have HN := Lib.hid hN
        have HR := Lib.hid hR
        clear hx ha ht hE hN hR hcell
        go_wp2
        go_ret3
        rw [HE.out, HN.out, HR.out]
        exact ⟨_, rfl, RR.nil _, Below.refl _ _⟩
    · obtain rfl : k = xs.length := by omega
      clear hkm hx ha hcell hk
      by_cases h10 : 10 ≤ xs.length
      · have hE : tkE xs = 3 := by unfold tkE; rw [← ht, show 10 - xs.length = 0 by omega]; rfl
        have hN : tkN xs = 0 := by unfold tkN; rw [← ht, show 10 - xs.length = 0 by omega]; rfl
        have hR : tkR xs = [] := by unfold tkR; rw [if_neg (by omega)]
        have h10' : (10 : Int) ≤ (xs.length : Int) := by omega
        have HE := Lib.hid hE
        have HN := Lib.hid hN
        have HR := Lib.hid hR
        clear ht hE hN hR
        go_wp2
        go_ret3
        rw [HE.out, HN.out, HR.out]
        exact ⟨_, rfl, RR.nil _, Below.refl _ _⟩
      · have h10' : (xs.length : Int) < 10 := by omega
        rw [List.drop_of_length_le (by omega), show 10 - xs.length = (9 - xs.length) + 1 by omega, tkGo] at ht
        have hE : tkE xs = 2 := by unfold tkE; rw [← ht]
        have hN : tkN xs = 0 := by unfold tkN; rw [← ht]
        have hR : tkR xs = [] := by unfold tkR; rw [if_neg (by omega)]
        have HE := Lib.hid hE
        have HN := Lib.hid hN
        have HR := Lib.hid hR
        clear ht hE hN hR
        go_wp2
        go_ret3
        rw [HE.out, HN.out, HR.out]
        exact ⟨_, rfl, RR.nil _, Below.refl _ _⟩

end Go.Proofs.Ytfnneneaalaagaa

namespace Go.Proofs.Ytfnneneaalaagaa
set_option maxRecDepth 100000
open Go.RowKit
set_option linter.unusedSimpArgs false
set_option linter.unusedVariables false

def smallB (r c : Int) (n : Nat) : Bool := decide ((n : Int) ≤ 64) && (decide (r ≤ 8) && decide (c ≤ 8))
set_option maxHeartbeats 800000 in
theorem small_any (r c : Int) (A : Option Addr) (n cp : Nat) (w : World) : Calls Try.prog 19 #[.agg (mxT.enc (r, c, A, n, cp)).toArray] w fun e w' => e = .returned (.bool (smallB r c n)) ∧ Below w.heap.size w w' := by
  have H0 := SH.start Nil w
  have hd : (decide ((n : Int) ≤ 64) = false ∧ smallB r c n = false) ∨ (decide ((n : Int) ≤ 64) = true ∧ decide (r ≤ 8) = false ∧ smallB r c n = false) ∨ (decide ((n : Int) ≤ 64) = true ∧ decide (r ≤ 8) = true ∧ smallB r c n = decide (c ≤ 8)) := by
    unfold smallB
    by_cases h1 : (n : Int) ≤ 64 <;> by_cases h2 : r ≤ 8 <;> simp [h1, h2]
  rcases hd with ⟨d1, hs⟩ | ⟨d1, d2, hs⟩ | ⟨d1, d2, hs⟩
  all_goals
    rw [hs]
    clear hs
    go_enter Try.func19, Try.ntmps19
    go_wp2_with (first
      | ((with_reducible refine gBox ?_); refine wBox mxT (r, c, A, n, cp) H0 _ rfl rfl rfl ?_; clear H0; intro w1 H1; have k0 : w1.cell? ⟨w.heap.size, 0, none⟩ = some (.int .i64 r) := (H1.va 0 rfl).cell 0; have k1 : w1.cell? ⟨w.heap.size, 1, none⟩ = some (.int .i64 c) := (H1.va 0 rfl).cell 1; have k2 : w1.cell? ⟨w.heap.size, 2, none⟩ = some (.slice A n cp) := (H1.va 0 rfl).cell 2))
    go_ret
    exact ⟨rfl, H1.below⟩
set_option maxHeartbeats 800000 in
theorem plain26_any (r c : Int) (A : Option Addr) (n cp : Nat) (w : World) : Calls Try.prog 23 #[.agg (mxT.enc (r, c, A, n, cp)).toArray] w fun e w' => e = .returned (.agg (rxT.enc (r, c, A, n, cp)).toArray) ∧ Below w.heap.size w w' := by
  have H0 := SH.start Nil w
  go_enter Try.func23, Try.ntmps23
  go_wp2_with (first
    | ((with_reducible refine gBox ?_); refine wBox mxT (r, c, A, n, cp) H0 _ rfl rfl rfl ?_; clear H0; intro w1 H1)
    | ((with_reducible refine gAlloc ?_); refine wAlloc rxT H1 rfl rfl ?_; clear H1; intro w2 H2; have k0 : w2.cell? ⟨w.heap.size, 0, none⟩ = some (.int .i64 r) := (H2.va 1 rfl).cell 0; have k1 : w2.cell? ⟨w.heap.size, 1, none⟩ = some (.int .i64 c) := (H2.va 1 rfl).cell 1; have k2 : w2.cell? ⟨w.heap.size, 2, none⟩ = some (.slice A n cp) := (H2.va 1 rfl).cell 2)
    | ((with_reducible refine gStore ?_); refine wStore rxT (r, c, A, n, cp) H2 0 rfl rfl _ _ rfl rfl rfl rfl ?_; clear H2; intro w3 H3))
  refine bodyPost_ret (results_cell rfl _ (H3.va 0 rfl) rfl _ Try.underlying38 rfl (rxT.sz _)) rfl ?_
  exact ⟨rfl, H3.below⟩
set_option maxHeartbeats 1600000 in
set_option maxRecDepth 100000 in
theorem Same_true (r c : Int) (A B : Option Addr) (n m cp cq : Nat) (l : List UInt8) (w : World) (ha : RB w (.slice A n cp) l) (hb : RB w (.slice B m cq) l) : Calls Try.prog 58 #[.agg (rxT.enc (r, c, A, n, cp)).toArray, .agg (rxT.enc (r, c, B, m, cq)).toArray] w fun e w' => e = .returned (.bool true) ∧ Below w.heap.size w w' := by
  have H0 := SH.start Nil w
  have HA := Lib.hid ha
  have HB := Lib.hid hb
  clear ha hb
  go_enter Try.func58, Try.ntmps58
  go_wp2_with (first
    | ((with_reducible refine gBox ?_); refine wBox rxT (r, c, A, n, cp) H0 (.tmp 0) rfl rfl rfl ?_; clear H0; intro w1 H1)
    | ((with_reducible refine gBox ?_); refine wBox rxT (r, c, B, m, cq) H1 (.tmp 1) rfl rfl rfl ?_; clear H1; intro w2 H2; have k0 : w2.cell? ⟨w.heap.size, 0, none⟩ = some (.int .i64 r) := (H2.va 1 rfl).cell 0; have k1 : w2.cell? ⟨w.heap.size, 1, none⟩ = some (.int .i64 c) := (H2.va 1 rfl).cell 1; have k2 : w2.cell? ⟨w.heap.size, 2, none⟩ = some (.slice A n cp) := (H2.va 1 rfl).cell 2; have j0 : w2.cell? ⟨w1.heap.size, 0, none⟩ = some (.int .i64 r) := (H2.va 0 rfl).cell 0; have j1 : w2.cell? ⟨w1.heap.size, 1, none⟩ = some (.int .i64 c) := (H2.va 0 rfl).cell 1; have j2 : w2.cell? ⟨w1.heap.size, 2, none⟩ = some (.slice B m cq) := (H2.va 0 rfl).cell 2; have s1 := strB (HA.out.below H2.below); have s2 := strB (HB.out.below H2.below)))
  go_ret
  exact ⟨rfl, H2.below⟩
set_option maxHeartbeats 1600000 in
set_option maxRecDepth 100000 in
theorem same_true (r c : Int) (A B : Option Addr) (n m cp cq : Nat) (l : List UInt8) (w : World) (ha : RB w (.slice A n cp) l) (hb : RB w (.slice B m cq) l) : Calls Try.prog 28 #[.agg (mxT.enc (r, c, A, n, cp)).toArray, .agg (rxT.enc (r, c, B, m, cq)).toArray] w fun e w' => e = .returned (.bool true) ∧ Below w.heap.size w w' := by
  have H0 := SH.start Nil w
  have cS := fun W h => Same_true r c A B n m cp cq l W (ha.below h) (hb.below h)
  have cP := fun W => plain26_any r c A n cp W
  have CS := Lib.hid cS
  have CP := Lib.hid cP
  clear cS cP ha hb
  go_enter Try.func28, Try.ntmps28
  go_wp2_with (first
    | ((with_reducible refine gBox ?_); refine wBox mxT (r, c, A, n, cp) H0 (.tmp 0) rfl rfl rfl ?_; clear H0; intro w1 H1)
    | ((with_reducible refine gBox ?_); refine wBox rxT (r, c, B, m, cq) H1 (.tmp 1) rfl rfl rfl ?_; clear H1; intro w2 H2))
  have H := H2.drew
  clear H2
  refine startE (none) (by kernel_rfl) ?_
  refine takeE 0 rfl (by kernel_rfl) (by kernel_rfl) (by kernel_rfl) (fun _ _ _ h => h) rfl (v := ?_) ?_ ?_
  rotate_left
  · intro w' hw'; refine Eq.trans (exec_load 32 _ rfl w.heap.size 0 rfl (mxT.enc (r, c, A, n, cp)) _ (VA.all ((H.va 1 rfl).below (grown_none hw'))) Try.underlying32 rfl (mxT.sz _)) ?_; with_reducible rfl
  (try simp only [Act.put, List.setIfInBounds_toArray, List.set_cons_zero, List.set_cons_succ])
  refine takeE 2 rfl (by kernel_rfl) (by kernel_rfl) (by kernel_rfl) (fun _ _ _ h => h) rfl (v := ?_) ?_ ?_
  rotate_left
  · intro w' hw'; refine Eq.trans (exec_load 38 _ rfl w1.heap.size 0 rfl (rxT.enc (r, c, B, m, cq)) _ (VA.all ((H.va 0 rfl).below (grown_none hw'))) Try.underlying38 rfl (rxT.sz _)) ?_; with_reducible rfl
  (try simp only [Act.put, List.setIfInBounds_toArray, List.set_cons_zero, List.set_cons_succ])
  refine stepE 1 rfl (by kernel_rfl) rfl (fun K hK => ?_)
  (go_simp; (with_reducible refine (CP.out _).mono ?_); rintro e w5 ⟨rfl, hb⟩; refine K_out hK hb ?_; clear K hK; replace H := H.step hb; clear hb)
  (try simp only [Act.put, List.setIfInBounds_toArray, List.set_cons_zero, List.set_cons_succ])
  refine stepE 3 rfl (by kernel_rfl) rfl (fun K hK => ?_)
  (go_simp; (with_reducible refine (CS.out _ H.below).mono ?_); rintro e w6 ⟨rfl, hb⟩; refine K_out hK hb ?_; clear K hK; replace H := H.step hb; clear hb)
  (try simp only [Act.put, List.setIfInBounds_toArray, List.set_cons_zero, List.set_cons_succ])
  refine takeE 4 rfl (by kernel_rfl) (by kernel_rfl) (by kernel_rfl) (fun _ _ _ h => h) rfl (v := ?_) ?_ ?_
  rotate_left
  · intro w' hw'; clear hw'; go_simp; (try with_reducible rfl)
  (try simp only [Act.put, List.setIfInBounds_toArray, List.set_cons_zero, List.set_cons_succ])
  refine doneE (by kernel_rfl) ?_
  go_wp2
  go_ret
  exact ⟨rfl, H.below⟩
set_option maxHeartbeats 1600000 in
set_option maxRecDepth 100000 in
theorem alive26_any (w : World) : Calls Try.prog 20 #[] w fun e w' => e = .returned (.bool true) ∧ Below w.heap.size w w' := by
  have f1 : fillL 2 1 (codeF 1) = [1, 1] := by decide +kernel
  have f2 : fillL 2 2 unitF = [1, 0, 0, 1] := by decide +kernel
  have f3 : rankI 2 2 [1, 0, 0, 1] = 2 := by decide +kernel
  have c1 : ∀ W, Calls Try.prog 26 #[.int .i64 1, .int .i64 2] W fun e w' => ∃ A cp, e = .returned (.tuple #[.agg (mxT.enc (2, 1, A, 2, cp)).toArray, .int .i64 0]) ∧ OB w' W.heap.size (.slice A 2 cp) [1, 1] ∧ Below W.heap.size W w' := fun W => by
    have := Code_ok 1 2 W (by omega) (by omega) (by omega)
    rw [f1] at this
    exact this
  have c2 : ∀ W, Calls Try.prog 24 #[.int .i64 2] W fun e w' => ∃ A cp, e = .returned (.tuple #[.agg (mxT.enc (2, 2, A, 4, cp)).toArray, .int .i64 0]) ∧ OB w' W.heap.size (.slice A 4 cp) [1, 0, 0, 1] ∧ Below W.heap.size W w' := fun W => by
    have := Unit_ok 2 W (by omega) (by omega)
    rw [f2] at this
    exact this
  have c3 := fun W => Unit_bad 0 W (by decide)
  have c4 : ∀ W A cp, RB W (.slice A 4 cp) [1, 0, 0, 1] → Calls Try.prog 31 #[.agg (mxT.enc (2, 2, A, 4, cp)).toArray] W fun e w' => e = .returned (.int .i64 2) ∧ Below W.heap.size W w' := fun W A cp h => by
    have := Rank_any 2 2 A cp [1, 0, 0, 1] W h (by simp)
    rw [f3] at this
    exact this
  have H0 := SH.start Nil w
  have C1 := Lib.hid c1
  have C2 := Lib.hid c2
  have C3 := Lib.hid c3
  have C4 := Lib.hid c4
  clear c1 c2 c3 c4 f1 f2 f3
  go_enter Try.func20, Try.ntmps20
  go_wp2_with (first
    | (go_at_call 26; (with_reducible refine (C1.out _).mono ?_); rintro e w1 ⟨A1, p1, rfl, ho, hb⟩; have H1 := H0.pushRow hb ho; clear H0 hb ho)
    | ((with_reducible refine gAlloc ?_); refine wVar mxT (2, 1, A1, 2, p1) H1 rfl 1 _ rfl rfl rfl rfl rfl ?_; clear H1; intro w2 H2)
    | (go_at_call 24; (with_reducible refine (C2.out _).mono ?_); rintro e w3 ⟨A2, p2, rfl, ho, hb⟩; have H3 := H2.pushRow hb ho; clear H2 hb ho)
    | ((with_reducible refine gAlloc ?_); refine wVar mxT (2, 2, A2, 4, p2) H3 rfl 3 _ rfl rfl rfl rfl rfl ?_; clear H3; intro w4 H4)
    | (go_at_call 24; (with_reducible refine (C3.out _).mono ?_); rintro e w5 ⟨rfl, hb⟩; have H5 := H4.step hb; clear H4 hb)
    | ((with_reducible refine gAlloc ?_); refine wVar mxT mxT.zero H5 rfl 5 _ rfl rfl rfl rfl rfl ?_; clear H5; intro w6 H6; have k2 : w6.cell? ⟨w1.heap.size, 2, none⟩ = some (.slice A1 2 p1) := (H6.va 3 rfl).cell 2; have j2 : w6.cell? ⟨w3.heap.size, 2, none⟩ = some (.slice A2 4 p2) := (H6.va 1 rfl).cell 2; have s1 := strB (H6.rr 4 rfl); have s2 := strB (H6.rr 2 rfl); have hr4 : RB w6 (.slice A2 4 p2) [1, 0, 0, 1] := H6.rr 2 rfl)
    | ((with_reducible refine gLoad ?_); refine wLoad mxT (2, 2, A2, 4, p2) H6 1 rfl rfl _ rfl rfl rfl ?_)
    | (go_at_call 31; (with_reducible refine (C4.out _ _ _ hr4).mono ?_); rintro e w7 ⟨rfl, hb⟩; have H7 := H6.step hb; clear H6 hb))
  go_ret
  exact ⟨rfl, H7.below⟩
end Go.Proofs.Ytfnneneaalaagaa

namespace Go.Proofs.Ytfnneneaalaagaa
set_option maxRecDepth 100000
open Go.RowKit
set_option linter.unusedSimpArgs false
set_option linter.unusedVariables false

def GivesP (T : AT Try.prog MX) (w : World) (r c : Int) (l : List UInt8) (E : Int) (e : Ending) (w' : World) : Prop := ∃ A cp, e = .returned (.tuple #[.agg (T.enc (r, c, A, l.length, cp)).toArray, .int .i64 E]) ∧ OB w' w.heap.size (.slice A l.length cp) l ∧ Below w.heap.size w w'
theorem GivesP.zero {T : AT Try.prog MX} {w : World} {e : Ending} {w' : World} (hz : T.zero = (0, 0, none, 0, 0)) (h : e = .returned (.tuple #[.agg (T.enc T.zero).toArray, .int .i64 1]) ∧ Below w.heap.size w w') : GivesP T w 0 0 [] 1 e w' := ⟨none, 0, by rw [h.1, hz]; rfl, OR.nil _ _, h.2⟩
theorem GivesP.of {T : AT Try.prog MX} {w : World} {r c : Nat} {l : List UInt8} {E : Int} {e : Ending} {w' : World} (h : GivesMx T w r c l E e w') : GivesP T w r c l E e w' := h
theorem Unit_pair (k : Int) : ∃ r c l E, (∀ w, Calls Try.prog 24 #[.int .i64 k] w fun e w' => GivesP mxT w r c l E e w') ∧ (∀ w, Calls Try.prog 25 #[.int .i64 k] w fun e w' => GivesP rxT w r c l E e w') := by
  cases h : sizeB k with
  | true =>
    have h2 := (sizeB_iff k).1 h
    obtain ⟨n, rfl⟩ : ∃ n : Nat, k = (n : Int) := ⟨k.toNat, by omega⟩
    exact ⟨n, n, _, 0, fun w => (Unit_ok n w (by omega) (by omega)).mono fun e w' h => .of h, fun w => (rUnit_ok n w (by omega) (by omega)).mono fun e w' h => .of h⟩
  | false => exact ⟨0, 0, [], 1, fun w => (Unit_bad k w h).mono fun e w' h => .zero rfl h, fun w => (rUnit_bad k w h).mono fun e w' h => .zero rfl h⟩
theorem Code_pair (k n : Int) : ∃ r c l E, (∀ w, Calls Try.prog 26 #[.int .i64 k, .int .i64 n] w fun e w' => GivesP mxT w r c l E e w') ∧ (∀ w, Calls Try.prog 27 #[.int .i64 k, .int .i64 n] w fun e w' => GivesP rxT w r c l E e w') := by
  by_cases h : 1 ≤ k ∧ k ≤ n ∧ n ≤ 32
  · obtain ⟨a, rfl⟩ : ∃ a : Nat, k = (a : Int) := ⟨k.toNat, by omega⟩
    obtain ⟨b, rfl⟩ : ∃ b : Nat, n = (b : Int) := ⟨n.toNat, by omega⟩
    exact ⟨b, a, _, 0, fun w => (Code_ok a b w (by omega) (by omega) (by omega)).mono fun e w' h => .of h, fun w => (rCode_ok a b w (by omega) (by omega) (by omega)).mono fun e w' h => .of h⟩
  · have h2 : k < 1 ∨ n < k ∨ 32 < n := by omega
    exact ⟨0, 0, [], 1, fun w => (Code_bad k n w h2).mono fun e w' h => .zero rfl h, fun w => (rCode_bad k n w h2).mono fun e w' h => .zero rfl h⟩
theorem Pick_pair (l : List UInt8) (r c : Int) (A0 : Option Addr) (cp0 : Nat) (vr : Value) (rs : List Int) (hcp : l.length ≤ cp0) : ∃ r' c' l' E,
    (∀ w, RB w (.slice A0 l.length cp0) l → RI w vr rs → Calls Try.prog 21 #[.agg (mxT.enc (r, c, A0, l.length, cp0)).toArray, vr] w fun e w' => GivesP mxT w r' c' l' E e w') ∧
    (∀ w, RB w (.slice A0 l.length cp0) l → RI w vr rs → Calls Try.prog 22 #[.agg (rxT.enc (r, c, A0, l.length, cp0)).toArray, vr] w fun e w' => GivesP rxT w r' c' l' E e w') := by
  cases hm : mayB r c l.length with
  | false => exact ⟨0, 0, [], 1, fun w _ hr => (Pick_bad r c _ A0 cp0 vr rs w hr (.inl hm)).mono fun e w' h => .zero rfl h, fun w _ hr => (rPick_bad r c _ A0 cp0 vr rs w hr (.inl hm)).mono fun e w' h => .zero rfl h⟩
  | true =>
    cases hs : sizeB (rs.length : Int) with
    | false => exact ⟨0, 0, [], 1, fun w _ hr => (Pick_bad r c _ A0 cp0 vr rs w hr (.inr (.inl ⟨hm, hs⟩))).mono fun e w' h => .zero rfl h, fun w _ hr => (rPick_bad r c _ A0 cp0 vr rs w hr (.inr ⟨hm, hs⟩)).mono fun e w' h => .zero rfl h⟩
    | true =>
      have h0 := hm
      unfold mayB at h0
      split at h0
      case isFalse => cases h0
      rename_i hr
      split at h0
      case isFalse => cases h0
      rename_i hc
      have hr2 := (sizeB_iff r).1 hr
      have hc2 := (sizeB_iff c).1 hc
      have hs2 := (sizeB_iff _).1 hs
      obtain ⟨a, rfl⟩ : ∃ a : Nat, r = (a : Int) := ⟨r.toNat, by omega⟩
      obtain ⟨b, rfl⟩ : ∃ b : Nat, c = (b : Int) := ⟨c.toNat, by omega⟩
      have hl : l.length = a * b := by have := beq_iff_eq.1 h0; exact_mod_cast this
      have P1 := fun w h1 h2 => Pick_main l a b l.length A0 cp0 vr rs w (by omega) (by omega) (by omega) (by omega) hl rfl h1 hcp h2 (by omega) (by omega)
      have P2 := fun w h1 h2 => rPick_main l a b l.length A0 cp0 vr rs w (by omega) (by omega) (by omega) (by omega) hl rfl h1 hcp h2 (by omega) (by omega)
      cases hb : rs.any (badRow (a : Int)) with
      | false =>
        have K : ∀ {T : AT Try.prog MX} {w e w'}, PickPost T w l a b rs e w' → GivesP T w rs.length b (pickL l b rs) 0 e w' := fun h => h.elim (fun h => .of h.2) (fun h => by rw [hb] at h; cases h.1)
        exact ⟨rs.length, b, _, 0, fun w h1 h2 => (P1 w h1 h2).mono fun e w' h => K h, fun w h1 h2 => (P2 w h1 h2).mono fun e w' h => K h⟩
      | true =>
        have K : ∀ {T : AT Try.prog MX} {w e w'}, T.zero = (0, 0, none, 0, 0) → PickPost T w l a b rs e w' → GivesP T w 0 0 [] 1 e w' := fun hz h => h.elim (fun h => by rw [hb] at h; cases h.1) (fun h => .zero hz h.2)
        exact ⟨0, 0, [], 1, fun w h1 h2 => (P1 w h1 h2).mono fun e w' h => K rfl h, fun w h1 h2 => (P2 w h1 h2).mono fun e w' h => K rfl h⟩
end Go.Proofs.Ytfnneneaalaagaa

namespace Go.Proofs.Ytfnneneaalaagaa
set_option maxRecDepth 100000
open Go.RowKit
set_option linter.unusedSimpArgs false
set_option linter.unusedVariables false

theorem enter_mul1 : ∀ args W, (callFunc 64 args).run Try.prog W = .ok (.enter 64 args) W := fun args W => Go.MuLone.run_callFunc_enter Try.func64 (by kernel_rfl) rfl args W
/-- What a product's refusal is. -/
def mulBad (r c : Int) (n : Nat) (r2 c2 : Int) (n2 : Nat) : Prop := mayB r c n = false ∨ (mayB r c n = true ∧ mayB r2 c2 n2 = false) ∨ (mayB r c n = true ∧ mayB r2 c2 n2 = true ∧ (c == r2) = false)
set_option maxHeartbeats 1600000 in
set_option maxRecDepth 100000 in
theorem Mul_bad (r c r2 c2 : Int) (n n2 : Nat) (A A2 : Option Addr) (cp cp2 : Nat) (w : World) (hbad : mulBad r c n r2 c2 n2) :
    Calls Try.prog 33 #[.agg (mxT.enc (r, c, A, n, cp)).toArray, .agg (mxT.enc (r2, c2, A2, n2, cp2)).toArray] w fun e w' => GivesP mxT w 0 0 [] 1 e w' := by
  have H := SH.start Nil w
  have cM : ∀ W, Calls Try.prog 37 #[.agg (mxT.enc (r, c, A, n, cp)).toArray] W fun e w' => e = .returned (.bool (mayB r c n)) ∧ Below W.heap.size W w' := fun W => MMay_any _ _ _ _ _ W
  have cM2 : ∀ W, Calls Try.prog 37 #[.agg (mxT.enc (r2, c2, A2, n2, cp2)).toArray] W fun e w' => e = .returned (.bool (mayB r2 c2 n2)) ∧ Below W.heap.size W w' := fun W => MMay_any _ _ _ _ _ W
  rcases hbad with h1 | ⟨h1, h2⟩ | ⟨h1, h2, h3⟩
  all_goals
    rw [h1] at cM
    try rw [h2] at cM2
    clear h1
    try clear h2
    go_enter Try.func33, Try.ntmps33
    go_wp2_with (first
      | ((with_reducible refine gDst 2 ?_); refine aBox H _ rfl rfl rfl ?_; clear H; intro b2 w2 H)
      | ((with_reducible refine gDst 3 ?_); refine aBox H _ rfl rfl rfl ?_; clear H; intro b3 w3 H)
      | ((with_reducible refine gDst 4 ?_); refine aAlloc H rfl rfl ?_; clear H; intro b4 w4 H)
      | ((with_reducible refine gLoad ?_); first | (refine aLoad1 H _ rfl rfl (by first | exact (rfl : _ = some (Value.int _ _)) | exact (rfl : _ = some (Value.slice _ _ _)) | exact (rfl : _ = some (Value.bool _)) | exact (rfl : _ = some (Value.string _)) | exact (rfl : _ = some (Value.pointer _)) | rfl | (simp [List.getElem?_append]; done)) rfl ?_) | (refine aLoadC _ rfl rfl (by assumption) rfl ?_) | (refine aLoad H _ rfl rfl (by first | exact part_all (by first | rfl | simp []) | (simp only [List.drop_succ_cons, List.drop_zero, List.take_succ_cons, List.take_zero]; rfl) | (simp [List.drop_append, List.take_append]; rfl)) (by first | rfl | simp []) rfl ?_))
      | ((with_reducible refine gBuild ?_); refine aZero rfl rfl ?_)
      | ((with_reducible refine gStore ?_); (first | (refine aStore H _ _ rfl rfl rfl (by (first | exact ⟨rfl, rfl⟩ | exact ⟨by decide, rfl⟩ | (simp []; done) | (constructor <;> simp [] <;> omega))) (by first | rfl | simp [List.all_append, one_all]) rfl ?_) | (refine aLay H _ _ rfl rfl rfl (by (first | exact ⟨rfl, rfl⟩ | exact ⟨by decide, rfl⟩ | (simp []; done) | (constructor <;> simp [] <;> omega))) (by first | rfl | simp [List.all_append, one_all]) (by simp only [lay, List.take_succ_cons, List.take_zero, List.drop_succ_cons, List.drop_zero, List.nil_append, List.cons_append, List.length_cons, List.length_nil, Nat.zero_add, Nat.reduceAdd]; rfl) rfl ?_)); clear H; intro w' H; try dsimp only at H)
      | (go_at_call 37; (with_reducible refine (cM _).mono ?_); rintro e w' ⟨rfl, hb⟩; replace H := H.step hb; clear hb)
      | (go_at_call 37; (with_reducible refine (cM2 _).mono ?_); rintro e w' ⟨rfl, hb⟩; replace H := H.step hb; clear hb))
    refine bodyPost_ret (res_cell_tmp rfl _ H.hold rfl rfl) rfl ?_
    exact .zero rfl ⟨rfl, H.below⟩
set_option maxHeartbeats 1600000 in
set_option maxRecDepth 100000 in
theorem Mul_ok (la lb : List UInt8) (ra c cb : Nat) (Aa Ab : Option Addr) (pa pb : Nat) (w : World)
    (ha : RB w (.slice Aa la.length pa) la) (hb : RB w (.slice Ab lb.length pb) lb) (hma : mayB ra c la.length = true) (hmb : mayB c cb lb.length = true) (hpa : la.length ≤ pa) (hpb : lb.length ≤ pb) :
    Calls Try.prog 33 #[.agg (mxT.enc ((ra : Int), (c : Int), Aa, la.length, pa)).toArray, .agg (mxT.enc ((c : Int), (cb : Int), Ab, lb.length, pb)).toArray] w fun e w' => GivesP mxT w ra cb (fillL ra cb (mulE la c lb cb)) 0 e w' := by
  have H := SH.start Nil w
  have cM : ∀ W, Calls Try.prog 37 #[.agg (mxT.enc (ra, c, Aa, la.length, pa)).toArray] W fun e w' => e = .returned (.bool (mayB ra c la.length)) ∧ Below W.heap.size W w' := fun W => MMay_any _ _ _ _ _ W
  have cM2 : ∀ W, Calls Try.prog 37 #[.agg (mxT.enc (c, cb, Ab, lb.length, pb)).toArray] W fun e w' => e = .returned (.bool (mayB c cb lb.length)) ∧ Below W.heap.size W w' := fun W => MMay_any _ _ _ _ _ W
  obtain ⟨x1, x2, e1, e2, h1, h2, h3, h4, hla⟩ := mayB_ok hma
  obtain ⟨x3, x4, e3, e4, h5, h6, h7, h8, hlb⟩ := mayB_ok hmb
  rw [show x1 = ra by omega, show x2 = c by omega] at hla
  rw [show x3 = c by omega, show x4 = cb by omega] at hlb
  rw [hma] at cM
  rw [hmb] at cM2
  have cF := fun (W : World) (ba bb : Nat) (RO : HOLD [.blk ba 32 (mxT.enc ((ra : Int), (c : Int), Aa, la.length, pa)), .blk bb 32 (mxT.enc ((c : Int), (cb : Int), Ab, lb.length, pb))] W) (hB : Below w.heap.size w W) => filled_any ra cb 64 #[.pointer (some ⟨ba, 0, none⟩), .pointer (some ⟨bb, 0, none⟩)] (mulE la c lb cb) W (by omega) (by omega) enter_mul1 (fun W2 h2 i j hi hj => Mul1_any la lb ra c cb i j ba bb Aa Ab pa pb W2 (RO.below h2) ((ha.below hB).below h2) ((hb.below hB).below h2) hla hlb hpa hpb (by omega) (by omega) (by omega) (by omega) hi hj)
  have CF := Lib.hid cF
  clear cF hma hmb ha hb hla hlb e1 e2 e3 e4 h1 h2 h3 h4 h5 h6 h7 h8
  have hcc : ((c : Int) != (c : Int)) = false := by simp
  go_enter Try.func33, Try.ntmps33
  go_wp2_with (first
    | ((with_reducible refine gDst 2 ?_); refine aBox H _ rfl rfl rfl ?_; clear H; intro b2 w2 H)
    | ((with_reducible refine gDst 3 ?_); refine aBox H _ rfl rfl rfl ?_; clear H; intro b3 w3 H)
    | ((with_reducible refine gDst 4 ?_); refine aAlloc H rfl rfl ?_; clear H; intro b4 w4 H)
    | ((with_reducible refine gLoad ?_); first | (refine aLoad1 H _ rfl rfl (by first | exact (rfl : _ = some (Value.int _ _)) | exact (rfl : _ = some (Value.slice _ _ _)) | exact (rfl : _ = some (Value.bool _)) | exact (rfl : _ = some (Value.string _)) | exact (rfl : _ = some (Value.pointer _)) | rfl | (simp [List.getElem?_append]; done)) rfl ?_) | (refine aLoadC _ rfl rfl (by assumption) rfl ?_) | (refine aLoad H _ rfl rfl (by first | exact part_all (by first | rfl | simp []) | (simp only [List.drop_succ_cons, List.drop_zero, List.take_succ_cons, List.take_zero]; rfl) | (simp [List.drop_append, List.take_append]; rfl)) (by first | rfl | simp []) rfl ?_))
    | ((with_reducible refine gBuild ?_); refine aZero rfl rfl ?_)
    | ((with_reducible refine gStore ?_); (first | (refine aStore H _ _ rfl rfl rfl (by (first | exact ⟨rfl, rfl⟩ | exact ⟨by decide, rfl⟩ | (simp []; done) | (constructor <;> simp [] <;> omega))) (by first | rfl | simp [List.all_append, one_all]) rfl ?_) | (refine aLay H _ _ rfl rfl rfl (by (first | exact ⟨rfl, rfl⟩ | exact ⟨by decide, rfl⟩ | (simp []; done) | (constructor <;> simp [] <;> omega))) (by first | rfl | simp [List.all_append, one_all]) (by simp only [lay, List.take_succ_cons, List.take_zero, List.drop_succ_cons, List.drop_zero, List.nil_append, List.cons_append, List.length_cons, List.length_nil, Nat.zero_add, Nat.reduceAdd]; rfl) rfl ?_)); clear H; intro w' H; try dsimp only at H)
    | (go_at_call 37; (with_reducible refine (cM _).mono ?_); rintro e w' ⟨rfl, hb⟩; replace H := H.step hb; clear hb)
    | (go_at_call 37; (with_reducible refine (cM2 _).mono ?_); rintro e w' ⟨rfl, hb⟩; replace H := H.step hb; clear hb)
    | (go_at_call 53; (with_reducible refine (CF.out _ b2 b3 (HOLD.cons H.hold.va (.one H.hold.va)) H.below).mono ?_); rintro e w' ⟨A, cp, rfl, ho, hb⟩; replace H := H.pushRow hb ho; clear hb ho))
  refine bodyPost_ret (res_cell_tmp rfl _ H.hold rfl rfl) rfl ?_
  exact ⟨A, cp, rfl, H.ow _, H.below⟩
end Go.Proofs.Ytfnneneaalaagaa

namespace Go.Proofs.Ytfnneneaalaagaa
set_option maxRecDepth 100000
open Go.RowKit
set_option linter.unusedSimpArgs false
set_option linter.unusedVariables false

/-- A product's answer, in both. -/
def GivesV (w : World) (l : List UInt8) (E : Int) (e : Ending) (w' : World) : Prop := ∃ A cp, e = .returned (.tuple #[.slice A l.length cp, .int .i64 E]) ∧ OB w' w.heap.size (.slice A l.length cp) l ∧ Below w.heap.size w w'
set_option maxHeartbeats 1600000 in
set_option maxRecDepth 100000 in
theorem Apply_of (r c : Int) (n : Nat) (A A2 : Option Addr) (cp n2 cp2 : Nat) (w : World) (r' c' : Int) (l' : List UInt8) (E : Int)
    (hM : ∀ W, Below w.heap.size w W → Calls Try.prog 33 #[.agg (mxT.enc (r, c, A, n, cp)).toArray, .agg (mxT.enc ((n2 : Int), 1, A2, n2, cp2)).toArray] W fun e w' => GivesP mxT W r' c' l' E e w') :
    Calls Try.prog 35 #[.agg (mxT.enc (r, c, A, n, cp)).toArray, .slice A2 n2 cp2] w fun e w' => GivesV w l' E e w' := by
  have H := SH.start Nil w
  have cM : ∀ W, Below w.heap.size w W → Calls Try.prog 33 #[.agg (mxT.enc (r, c, A, n, cp)).toArray, .agg #[.int .i64 (n2 : Int), .int .i64 1, .slice A2 n2 cp2]] W fun e w' => GivesP mxT W r' c' l' E e w' := hM
  clear hM
  go_enter Try.func35, Try.ntmps35
  go_wp2_with (first
    | ((with_reducible refine gDst 2 ?_); refine aBox H _ rfl rfl rfl ?_; clear H; intro b2 w2 H)
    | ((with_reducible refine gDst 6 ?_); refine aAlloc H rfl rfl ?_; clear H; intro b6 w6 H)
    | ((with_reducible refine gLoad ?_); first | (refine aLoad1 H _ rfl rfl (by first | exact (rfl : _ = some (Value.int _ _)) | exact (rfl : _ = some (Value.slice _ _ _)) | exact (rfl : _ = some (Value.bool _)) | exact (rfl : _ = some (Value.string _)) | exact (rfl : _ = some (Value.pointer _)) | rfl | (simp [List.getElem?_append]; done)) rfl ?_) | (refine aLoadC _ rfl rfl (by assumption) rfl ?_) | (refine aLoad H _ rfl rfl (by first | exact part_all (by first | rfl | simp []) | (simp only [List.drop_succ_cons, List.drop_zero, List.take_succ_cons, List.take_zero]; rfl) | (simp [List.drop_append, List.take_append]; rfl)) (by first | rfl | simp []) rfl ?_))
    | ((with_reducible refine gStore ?_); (first | (refine aStore H _ _ rfl rfl rfl (by (first | exact ⟨rfl, rfl⟩ | exact ⟨by decide, rfl⟩ | (simp []; done) | (constructor <;> simp [] <;> omega))) (by first | rfl | simp [List.all_append, one_all]) rfl ?_) | (refine aLay H _ _ rfl rfl rfl (by (first | exact ⟨rfl, rfl⟩ | exact ⟨by decide, rfl⟩ | (simp []; done) | (constructor <;> simp [] <;> omega))) (by first | rfl | simp [List.all_append, one_all]) (by simp only [lay, List.take_succ_cons, List.take_zero, List.drop_succ_cons, List.drop_zero, List.nil_append, List.cons_append, List.length_cons, List.length_nil, Nat.zero_add, Nat.reduceAdd]; rfl) rfl ?_)); clear H; intro w' H; try dsimp only at H)
    | (go_at_call 33; (with_reducible refine (cM _ H.below).mono ?_); rintro e w' ⟨A5, cp5, rfl, ho, hb⟩; replace H := H.pushRow hb ho; clear hb ho))
  go_ret2
  exact ⟨A5, cp5, rfl, H.ow _, H.below⟩
end Go.Proofs.Ytfnneneaalaagaa

namespace Go.Proofs.Ytfnneneaalaagaa
set_option maxRecDepth 100000
open Go.RowKit
set_option linter.unusedSimpArgs false
set_option linter.unusedVariables false

set_option maxHeartbeats 1600000 in
set_option maxRecDepth 100000 in
theorem rMul_bad (r c r2 c2 : Int) (n n2 : Nat) (A A2 : Option Addr) (cp cp2 : Nat) (w : World) (hbad : mulBad r c n r2 c2 n2) :
    Calls Try.prog 34 #[.agg (rxT.enc (r, c, A, n, cp)).toArray, .agg (rxT.enc (r2, c2, A2, n2, cp2)).toArray] w fun e w' => GivesP rxT w 0 0 [] 1 e w' := by
  have H := SH.start Nil w
  have cM : ∀ W, Calls Try.prog 38 #[.agg (rxT.enc (r, c, A, n, cp)).toArray] W fun e w' => e = .returned (.bool (mayB r c n)) ∧ Below W.heap.size W w' := fun W => rMay_any _ _ _ _ _ W
  have cM2 : ∀ W, Calls Try.prog 38 #[.agg (rxT.enc (r2, c2, A2, n2, cp2)).toArray] W fun e w' => e = .returned (.bool (mayB r2 c2 n2)) ∧ Below W.heap.size W w' := fun W => rMay_any _ _ _ _ _ W
  rcases hbad with h1 | ⟨h1, h2⟩ | ⟨h1, h2, h3⟩
  all_goals
    rw [h1] at cM
    try rw [h2] at cM2
    clear h1
    try clear h2
    go_enter Try.func34, Try.ntmps34
    go_wp2_with (first
      | ((with_reducible refine gDst 2 ?_); refine aBox H _ rfl rfl rfl ?_; clear H; intro b2 w2 H)
      | ((with_reducible refine gDst 3 ?_); refine aBox H _ rfl rfl rfl ?_; clear H; intro b3 w3 H)
      | ((with_reducible refine gDst 4 ?_); refine aAlloc H rfl rfl ?_; clear H; intro b4 w4 H)
      | ((with_reducible refine gDst 6 ?_); refine aAlloc H rfl rfl ?_; clear H; intro b6 w6 H)
      | ((with_reducible refine gLoad ?_); first | (refine aLoad1 H _ rfl rfl (by first | exact (rfl : _ = some (Value.int _ _)) | exact (rfl : _ = some (Value.slice _ _ _)) | exact (rfl : _ = some (Value.bool _)) | exact (rfl : _ = some (Value.string _)) | exact (rfl : _ = some (Value.pointer _)) | rfl | (simp [List.getElem?_append]; done)) rfl ?_) | (refine aLoadC _ rfl rfl (by assumption) rfl ?_) | (refine aLoad H _ rfl rfl (by first | exact part_all (by first | rfl | simp []) | (simp only [List.drop_succ_cons, List.drop_zero, List.take_succ_cons, List.take_zero]; rfl) | (simp [List.drop_append, List.take_append]; rfl)) (by first | rfl | simp []) rfl ?_))
      | ((with_reducible refine gBuild ?_); refine aZero rfl rfl ?_)
      | ((with_reducible refine gStore ?_); (first | (refine aCell H _ _ rfl rfl (by first | exact (rfl : _ = Value.int _ _) | exact (rfl : _ = Value.bool _) | exact (rfl : _ = Value.slice _ _ _) | exact (rfl : _ = Value.string _) | exact (rfl : _ = Value.pointer _) | exact (rfl : _ = Value.func _ _ _) | rfl) (by rfl) (by rfl) (by first | exact of_decide_eq_true rfl | (simp []; done) | (simp []; omega)) (by first | (simp only [List.set_cons_zero, List.set_cons_succ]; rfl) | (simp [List.set_append]; rfl)) rfl ?_) | (refine aStore H _ _ rfl rfl rfl (by (first | exact ⟨rfl, rfl⟩ | exact ⟨by decide, rfl⟩ | (simp []; done) | (constructor <;> simp [] <;> omega))) (by first | rfl | simp [List.all_append, one_all]) rfl ?_) | (refine aLay H _ _ rfl rfl rfl (by (first | exact ⟨rfl, rfl⟩ | exact ⟨by decide, rfl⟩ | (simp []; done) | (constructor <;> simp [] <;> omega))) (by first | rfl | simp [List.all_append, one_all]) (by simp only [lay, List.take_succ_cons, List.take_zero, List.drop_succ_cons, List.drop_zero, List.nil_append, List.cons_append, List.length_cons, List.length_nil, Nat.zero_add, Nat.reduceAdd]; rfl) rfl ?_)); clear H; intro w' H; try dsimp only at H)
      | (at_builtin; refine aAppB1 _ H _ _ rfl rfl rfl (by first | omega | (have := HCL.out; omega)) rfl ?_; clear H; intro v' w' ys HY H; (try dsimp only at H); obtain ⟨A', c', rfl, hc'⟩ := (H.hold.rr v').len)
      | (go_at_call 38; (with_reducible refine (cM _).mono ?_); rintro e w' ⟨rfl, hb⟩; replace H := H.step hb; clear hb)
      | (go_at_call 38; (with_reducible refine (cM2 _).mono ?_); rintro e w' ⟨rfl, hb⟩; replace H := H.step hb; clear hb))
    refine bodyPost_ret (res_cell_tmp rfl _ H.hold rfl rfl) rfl ?_
    exact .zero rfl ⟨rfl, H.below⟩
def mulRest (ra ca : Int) (A : Option Addr) (n p : Nat) (rb cb : Int) (A2 : Option Addr) (n2 p2 : Nat) (b2 b3 b4 : Nat) : List Own := [.blk b4 38 (rxT.enc (0, 0, none, 0, 0)), .blk b3 38 (rxT.enc (rb, cb, A2, n2, p2)), .blk b2 38 (rxT.enc (ra, ca, A, n, p))]
def relM1 (ra cb : Nat) (f : Nat → Nat → UInt8) (w : World) (b6 : Nat) (L : List Own) (v7 : Value) (wr : World) : Prop := ∃ (i : Nat) (A : Option Addr) (cp : Nat), v7 = .int .i64 (i : Int) ∧ i ≤ ra ∧ SH Nil w wr (.row B8 (.slice A (fillL i cb f).length cp) (fillL i cb f) :: .blk b6 38 [.int .i64 (ra : Int), .int .i64 (cb : Int), .slice A (fillL i cb f).length cp] :: L)
def relM2 (ra cb i : Nat) (f : Nat → Nat → UInt8) (w : World) (b6 : Nat) (L : List Own) (v8 : Value) (wr : World) : Prop := ∃ (j : Nat) (cur : List UInt8) (A : Option Addr) (cp : Nat), v8 = .int .i64 (j : Int) ∧ j ≤ cb ∧ Hid (cur = fillL i cb f ++ (List.range j).map (f i)) ∧ SH Nil w wr (.row B8 (.slice A cur.length cp) cur :: .blk b6 38 [.int .i64 (ra : Int), .int .i64 (cb : Int), .slice A cur.length cp] :: L)
def relM3 (c : Nat) (g : Nat → UInt8) (w : World) (L : List Own) (v9 v10 : Value) (wr : World) : Prop := ∃ (k : Nat), v10 = .int .i64 (k : Int) ∧ k ≤ c ∧ v9 = .int .u8 ((sumX k g).toNat : Int) ∧ SH Nil w wr L
set_option maxHeartbeats 3200000 in
set_option maxRecDepth 100000 in
theorem rMul_ok (la lb : List UInt8) (ra c cb : Nat) (Aa Ab : Option Addr) (pa pb : Nat) (w : World)
    (ha : RB w (.slice Aa la.length pa) la) (hb : RB w (.slice Ab lb.length pb) lb) (hma : mayB ra c la.length = true) (hmb : mayB c cb lb.length = true) :
    Calls Try.prog 34 #[.agg (rxT.enc ((ra : Int), (c : Int), Aa, la.length, pa)).toArray, .agg (rxT.enc ((c : Int), (cb : Int), Ab, lb.length, pb)).toArray] w fun e w' => GivesP rxT w ra cb (fillL ra cb (mulE la c lb cb)) 0 e w' := by
  have H := SH.start Nil w
  have cM : ∀ W, Calls Try.prog 38 #[.agg (rxT.enc (ra, c, Aa, la.length, pa)).toArray] W fun e w' => e = .returned (.bool (mayB ra c la.length)) ∧ Below W.heap.size W w' := fun W => rMay_any _ _ _ _ _ W
  have cM2 : ∀ W, Calls Try.prog 38 #[.agg (rxT.enc (c, cb, Ab, lb.length, pb)).toArray] W fun e w' => e = .returned (.bool (mayB c cb lb.length)) ∧ Below W.heap.size W w' := fun W => rMay_any _ _ _ _ _ W
  obtain ⟨x1, x2, e1, e2, h1, h2, h3, h4, hla⟩ := mayB_ok hma
  obtain ⟨x3, x4, e3, e4, h5, h6, h7, h8, hlb⟩ := mayB_ok hmb
  rw [show x1 = ra by omega, show x2 = c by omega] at hla
  rw [show x3 = c by omega, show x4 = cb by omega] at hlb
  rw [hma] at cM
  rw [hmb] at cM2
  have cA1 := fun (W : World) (h : Below w.heap.size w W) (i k : Nat) (hi : i < ra) (hk : k < c) => rat_any la ra c i k Aa la.length pa W (ha.below h) rfl (by have := Nat.mul_le_mul (show ra ≤ 32 by omega) (show c ≤ 32 by omega); omega) (by omega) (by omega) (by omega) (by have := row_in (c := c) hi; rw [Nat.add_mul, Nat.one_mul] at this; omega)
  have cA2 := fun (W : World) (h : Below w.heap.size w W) (k j : Nat) (hk : k < c) (hj : j < cb) => rat_any lb c cb k j Ab lb.length pb W (hb.below h) rfl (by have := Nat.mul_le_mul (show c ≤ 32 by omega) (show cb ≤ 32 by omega); omega) (by omega) (by omega) (by omega) (by have := row_in (c := cb) hk; rw [Nat.add_mul, Nat.one_mul] at this; omega)
  have hra : ra ≤ 32 := by omega
  have hcc : c ≤ 32 := by omega
  have hcb : cb ≤ 32 := by omega
  have CA1 := Lib.hid cA1
  have CA2 := Lib.hid cA2
  clear cA1 cA2 hma hmb ha hb hla hlb e1 e2 e3 e4 h1 h2 h3 h4 h5 h6 h7 h8
  go_enter Try.func34, Try.ntmps34
  go_wp2_with (first
    | ((with_reducible refine gDst 2 ?_); refine aBox H _ rfl rfl rfl ?_; clear H; intro b2 w2 H)
    | ((with_reducible refine gDst 3 ?_); refine aBox H _ rfl rfl rfl ?_; clear H; intro b3 w3 H)
    | ((with_reducible refine gDst 4 ?_); refine aAlloc H rfl rfl ?_; clear H; intro b4 w4 H)
    | ((with_reducible refine gDst 6 ?_); refine aAlloc H rfl rfl ?_; clear H; intro b6 w6 H)
    | ((with_reducible refine gLoad ?_); first | (refine aLoad1 H _ rfl rfl (by first | exact (rfl : _ = some (Value.int _ _)) | exact (rfl : _ = some (Value.slice _ _ _)) | exact (rfl : _ = some (Value.bool _)) | exact (rfl : _ = some (Value.string _)) | exact (rfl : _ = some (Value.pointer _)) | rfl | (simp [List.getElem?_append]; done)) rfl ?_) | (refine aLoadC _ rfl rfl (by assumption) rfl ?_) | (refine aLoad H _ rfl rfl (by first | exact part_all (by first | rfl | simp []) | (simp only [List.drop_succ_cons, List.drop_zero, List.take_succ_cons, List.take_zero]; rfl) | (simp [List.drop_append, List.take_append]; rfl)) (by first | rfl | simp []) rfl ?_))
    | ((with_reducible refine gBuild ?_); refine aZero rfl rfl ?_)
    | ((with_reducible refine gStore ?_); (first | (refine aCell H _ _ rfl rfl (by first | exact (rfl : _ = Value.int _ _) | exact (rfl : _ = Value.bool _) | exact (rfl : _ = Value.slice _ _ _) | exact (rfl : _ = Value.string _) | exact (rfl : _ = Value.pointer _) | exact (rfl : _ = Value.func _ _ _) | rfl) (by rfl) (by rfl) (by first | exact of_decide_eq_true rfl | (simp []; done) | (simp []; omega)) (by first | (simp only [List.set_cons_zero, List.set_cons_succ]; rfl) | (simp [List.set_append]; rfl)) rfl ?_) | (refine aStore H _ _ rfl rfl rfl (by (first | exact ⟨rfl, rfl⟩ | exact ⟨by decide, rfl⟩ | (simp []; done) | (constructor <;> simp [] <;> omega))) (by first | rfl | simp [List.all_append, one_all]) rfl ?_) | (refine aLay H _ _ rfl rfl rfl (by (first | exact ⟨rfl, rfl⟩ | exact ⟨by decide, rfl⟩ | (simp []; done) | (constructor <;> simp [] <;> omega))) (by first | rfl | simp [List.all_append, one_all]) (by simp only [lay, List.take_succ_cons, List.take_zero, List.drop_succ_cons, List.drop_zero, List.nil_append, List.cons_append, List.length_cons, List.length_nil, Nat.zero_add, Nat.reduceAdd]; rfl) rfl ?_)); clear H; intro w' H; try dsimp only at H)
    | (at_builtin; refine aAppB1 _ H _ _ rfl rfl rfl (by first | omega | (have := HCL.out; omega)) rfl ?_; clear H; intro v' w' ys HY H; (try dsimp only at H); obtain ⟨A', c', rfl, hc'⟩ := (H.hold.rr v').len)
    | (go_at_call 38; (with_reducible refine (cM _).mono ?_); rintro e w' ⟨rfl, hb⟩; replace H := H.step hb; clear hb)
    | (go_at_call 38; (with_reducible refine (cM2 _).mono ?_); rintro e w' ⟨rfl, hb⟩; replace H := H.step hb; clear hb))
  go_loopw [7] (fun v7 wr => relM1 ra cb (mulE la c lb cb) w b6 (mulRest ra c Aa la.length pa c cb Ab lb.length pb b2 b3 b4) v7 wr) (fun v _ => ra - (intOf v).toNat)
  case atStart => exact ⟨0, none, 0, rfl, by omega, H.nilRow B8⟩
  case round =>
    obtain ⟨i, A, cp, rfl, hi, HS⟩ := hrel
    clear H
    have H := HS
    clear HS
    unfold mulRest at H
    by_cases hir : i < ra
    · have hii : (i : Int) < (ra : Int) := by omega
      go_wp2_with (first
        | ((with_reducible refine gDst 2 ?_); refine aBox H _ rfl rfl rfl ?_; clear H; intro b2 w2 H)
        | ((with_reducible refine gDst 3 ?_); refine aBox H _ rfl rfl rfl ?_; clear H; intro b3 w3 H)
        | ((with_reducible refine gDst 4 ?_); refine aAlloc H rfl rfl ?_; clear H; intro b4 w4 H)
        | ((with_reducible refine gDst 6 ?_); refine aAlloc H rfl rfl ?_; clear H; intro b6 w6 H)
        | ((with_reducible refine gLoad ?_); first | (refine aLoad1 H _ rfl rfl (by first | exact (rfl : _ = some (Value.int _ _)) | exact (rfl : _ = some (Value.slice _ _ _)) | exact (rfl : _ = some (Value.bool _)) | exact (rfl : _ = some (Value.string _)) | exact (rfl : _ = some (Value.pointer _)) | rfl | (simp [List.getElem?_append]; done)) rfl ?_) | (refine aLoadC _ rfl rfl (by assumption) rfl ?_) | (refine aLoad H _ rfl rfl (by first | exact part_all (by first | rfl | simp []) | (simp only [List.drop_succ_cons, List.drop_zero, List.take_succ_cons, List.take_zero]; rfl) | (simp [List.drop_append, List.take_append]; rfl)) (by first | rfl | simp []) rfl ?_))
        | ((with_reducible refine gBuild ?_); refine aZero rfl rfl ?_)
        | ((with_reducible refine gStore ?_); (first | (refine aCell H _ _ rfl rfl (by first | exact (rfl : _ = Value.int _ _) | exact (rfl : _ = Value.bool _) | exact (rfl : _ = Value.slice _ _ _) | exact (rfl : _ = Value.string _) | exact (rfl : _ = Value.pointer _) | exact (rfl : _ = Value.func _ _ _) | rfl) (by rfl) (by rfl) (by first | exact of_decide_eq_true rfl | (simp []; done) | (simp []; omega)) (by first | (simp only [List.set_cons_zero, List.set_cons_succ]; rfl) | (simp [List.set_append]; rfl)) rfl ?_) | (refine aStore H _ _ rfl rfl rfl (by (first | exact ⟨rfl, rfl⟩ | exact ⟨by decide, rfl⟩ | (simp []; done) | (constructor <;> simp [] <;> omega))) (by first | rfl | simp [List.all_append, one_all]) rfl ?_) | (refine aLay H _ _ rfl rfl rfl (by (first | exact ⟨rfl, rfl⟩ | exact ⟨by decide, rfl⟩ | (simp []; done) | (constructor <;> simp [] <;> omega))) (by first | rfl | simp [List.all_append, one_all]) (by simp only [lay, List.take_succ_cons, List.take_zero, List.drop_succ_cons, List.drop_zero, List.nil_append, List.cons_append, List.length_cons, List.length_nil, Nat.zero_add, Nat.reduceAdd]; rfl) rfl ?_)); clear H; intro w' H; try dsimp only at H)
        | (at_builtin; refine aAppB1 _ H _ _ rfl rfl rfl (by first | omega | (have := HCL.out; omega)) rfl ?_; clear H; intro v' w' ys HY H; (try dsimp only at H); obtain ⟨A', c', rfl, hc'⟩ := (H.hold.rr v').len))
      go_loopw [8] (fun v8 wr => relM2 ra cb i (mulE la c lb cb) w b6 (mulRest ra c Aa la.length pa c cb Ab lb.length pb b2 b3 b4) v8 wr) (fun v _ => cb - (intOf v).toNat)
      case atStart => exact ⟨0, _, A, cp, rfl, by omega, by simp [Hid], H⟩
      case round =>
        obtain ⟨j, cur, A, cp, rfl, hj, HC, HS⟩ := hrel
        clear H
        have H := HS
        clear HS
        unfold mulRest at H
        by_cases hjc : j < cb
        · have hji : (j : Int) < (cb : Int) := by omega
          have hcl : cur.length ≤ 5000 := by
            rw [HC.out, List.length_append, fillL_len, List.length_map, List.length_range]
            have := Nat.mul_le_mul hi hcb
            have := Nat.mul_le_mul hra (Nat.le_refl 32)
            omega
          have HCL := Lib.hid hcl
          have hst : cur ++ [mulE la c lb cb i j] = fillL i cb (mulE la c lb cb) ++ (List.range (j + 1)).map (mulE la c lb cb i) := by rw [HC.out, List.range_succ, List.map_append, List.append_assoc]; rfl
          have hmx : mulE la c lb cb i j = sumX c fun k => fmul (la.getD (i * c + k) 0) (lb.getD (k * cb + j) 0) := rfl
          obtain ⟨g, hg⟩ : ∃ g, g = fun k => fmul (la.getD (i * c + k) 0) (lb.getD (k * cb + j) 0) := ⟨_, rfl⟩
          rw [← hg] at hmx
          have hgk : ∀ k, g k = fmul (la.getD (i * c + k) 0) (lb.getD (k * cb + j) 0) := fun k => by rw [hg]
          rw [hmx] at hst
          have HST := Lib.hid hst
          have HG := Lib.hid hgk
          clear hcl hst hmx hg hgk
          go_wp2_with (first
            | ((with_reducible refine gDst 2 ?_); refine aBox H _ rfl rfl rfl ?_; clear H; intro b2 w2 H)
            | ((with_reducible refine gDst 3 ?_); refine aBox H _ rfl rfl rfl ?_; clear H; intro b3 w3 H)
            | ((with_reducible refine gDst 4 ?_); refine aAlloc H rfl rfl ?_; clear H; intro b4 w4 H)
            | ((with_reducible refine gDst 6 ?_); refine aAlloc H rfl rfl ?_; clear H; intro b6 w6 H)
            | ((with_reducible refine gLoad ?_); first | (refine aLoad1 H _ rfl rfl (by first | exact (rfl : _ = some (Value.int _ _)) | exact (rfl : _ = some (Value.slice _ _ _)) | exact (rfl : _ = some (Value.bool _)) | exact (rfl : _ = some (Value.string _)) | exact (rfl : _ = some (Value.pointer _)) | rfl | (simp [List.getElem?_append]; done)) rfl ?_) | (refine aLoadC _ rfl rfl (by assumption) rfl ?_) | (refine aLoad H _ rfl rfl (by first | exact part_all (by first | rfl | simp []) | (simp only [List.drop_succ_cons, List.drop_zero, List.take_succ_cons, List.take_zero]; rfl) | (simp [List.drop_append, List.take_append]; rfl)) (by first | rfl | simp []) rfl ?_))
            | ((with_reducible refine gBuild ?_); refine aZero rfl rfl ?_)
            | ((with_reducible refine gStore ?_); (first | (refine aCell H _ _ rfl rfl (by first | exact (rfl : _ = Value.int _ _) | exact (rfl : _ = Value.bool _) | exact (rfl : _ = Value.slice _ _ _) | exact (rfl : _ = Value.string _) | exact (rfl : _ = Value.pointer _) | exact (rfl : _ = Value.func _ _ _) | rfl) (by rfl) (by rfl) (by first | exact of_decide_eq_true rfl | (simp []; done) | (simp []; omega)) (by first | (simp only [List.set_cons_zero, List.set_cons_succ]; rfl) | (simp [List.set_append]; rfl)) rfl ?_) | (refine aStore H _ _ rfl rfl rfl (by (first | exact ⟨rfl, rfl⟩ | exact ⟨by decide, rfl⟩ | (simp []; done) | (constructor <;> simp [] <;> omega))) (by first | rfl | simp [List.all_append, one_all]) rfl ?_) | (refine aLay H _ _ rfl rfl rfl (by (first | exact ⟨rfl, rfl⟩ | exact ⟨by decide, rfl⟩ | (simp []; done) | (constructor <;> simp [] <;> omega))) (by first | rfl | simp [List.all_append, one_all]) (by simp only [lay, List.take_succ_cons, List.take_zero, List.drop_succ_cons, List.drop_zero, List.nil_append, List.cons_append, List.length_cons, List.length_nil, Nat.zero_add, Nat.reduceAdd]; rfl) rfl ?_)); clear H; intro w' H; try dsimp only at H)
            | (at_builtin; refine aAppB1 _ H _ _ rfl rfl rfl (by first | omega | (have := HCL.out; omega)) rfl ?_; clear H; intro v' w' ys HY H; (try dsimp only at H); obtain ⟨A', c', rfl, hc'⟩ := (H.hold.rr v').len))
          go_loopw [9, 10] (fun v9 v10 wr => relM3 c g w (.row B8 (.slice A cur.length cp) cur :: .blk b6 38 [.int .i64 (ra : Int), .int .i64 (cb : Int), .slice A cur.length cp] :: mulRest ra c Aa la.length pa c cb Ab lb.length pb b2 b3 b4) v9 v10 wr) (fun _ v _ => c - (intOf v).toNat)
          case atStart => exact ⟨0, rfl, by omega, rfl, H⟩
          case round =>
            obtain ⟨k, rfl, hk, rfl, HS⟩ := hrel
            clear H
            have H := HS
            clear HS
            unfold mulRest at H
            by_cases hkc : k < c
            · have hki : (k : Int) < (c : Int) := by omega
              have c1 := fun W h => CA1.out W h i k hir hkc
              have c2 := fun W h => CA2.out W h k j hkc hjc
              have hs : sumX (k + 1) g = sumX k g ^^^ fmul (la.getD (i * c + k) 0) (lb.getD (k * cb + j) 0) := by rw [sumX, HG.out]
              generalize la.getD (i * c + k) 0 = x at *
              generalize lb.getD (k * cb + j) 0 = y at *
              have c3 := fun W => RMul_f x y W
              have hx := xor8 (sumX k g) (fmul x y)
              rw [← hs] at hx
              generalize sumX k g = s at *
              generalize fmul x y = p at *
              have HX := Lib.hid hs
              clear hs
              go_wp2_with (first
                | ((with_reducible refine gDst 2 ?_); refine aBox H _ rfl rfl rfl ?_; clear H; intro b2 w2 H)
                | ((with_reducible refine gDst 3 ?_); refine aBox H _ rfl rfl rfl ?_; clear H; intro b3 w3 H)
                | ((with_reducible refine gDst 4 ?_); refine aAlloc H rfl rfl ?_; clear H; intro b4 w4 H)
                | ((with_reducible refine gDst 6 ?_); refine aAlloc H rfl rfl ?_; clear H; intro b6 w6 H)
                | ((with_reducible refine gLoad ?_); first | (refine aLoad1 H _ rfl rfl (by first | exact (rfl : _ = some (Value.int _ _)) | exact (rfl : _ = some (Value.slice _ _ _)) | exact (rfl : _ = some (Value.bool _)) | exact (rfl : _ = some (Value.string _)) | exact (rfl : _ = some (Value.pointer _)) | rfl | (simp [List.getElem?_append]; done)) rfl ?_) | (refine aLoadC _ rfl rfl (by assumption) rfl ?_) | (refine aLoad H _ rfl rfl (by first | exact part_all (by first | rfl | simp []) | (simp only [List.drop_succ_cons, List.drop_zero, List.take_succ_cons, List.take_zero]; rfl) | (simp [List.drop_append, List.take_append]; rfl)) (by first | rfl | simp []) rfl ?_))
                | ((with_reducible refine gBuild ?_); refine aZero rfl rfl ?_)
                | ((with_reducible refine gStore ?_); (first | (refine aCell H _ _ rfl rfl (by first | exact (rfl : _ = Value.int _ _) | exact (rfl : _ = Value.bool _) | exact (rfl : _ = Value.slice _ _ _) | exact (rfl : _ = Value.string _) | exact (rfl : _ = Value.pointer _) | exact (rfl : _ = Value.func _ _ _) | rfl) (by rfl) (by rfl) (by first | exact of_decide_eq_true rfl | (simp []; done) | (simp []; omega)) (by first | (simp only [List.set_cons_zero, List.set_cons_succ]; rfl) | (simp [List.set_append]; rfl)) rfl ?_) | (refine aStore H _ _ rfl rfl rfl (by (first | exact ⟨rfl, rfl⟩ | exact ⟨by decide, rfl⟩ | (simp []; done) | (constructor <;> simp [] <;> omega))) (by first | rfl | simp [List.all_append, one_all]) rfl ?_) | (refine aLay H _ _ rfl rfl rfl (by (first | exact ⟨rfl, rfl⟩ | exact ⟨by decide, rfl⟩ | (simp []; done) | (constructor <;> simp [] <;> omega))) (by first | rfl | simp [List.all_append, one_all]) (by simp only [lay, List.take_succ_cons, List.take_zero, List.drop_succ_cons, List.drop_zero, List.nil_append, List.cons_append, List.length_cons, List.length_nil, Nat.zero_add, Nat.reduceAdd]; rfl) rfl ?_)); clear H; intro w' H; try dsimp only at H)
                | (at_builtin; refine aAppB1 _ H _ _ rfl rfl rfl (by first | omega | (have := HCL.out; omega)) rfl ?_; clear H; intro v' w' ys HY H; (try dsimp only at H); obtain ⟨A', c', rfl, hc'⟩ := (H.hold.rr v').len))
              refine startA (fun i => false) (by kernel_rfl) (fun wS hS => ?_)
              replace H := H.drew
              rw [← hS] at H
              have HH := H.hold
              have HS0 : Below wS.heap.size wS wS := Below.refl _ _
              clear hS
              refine takeP 0 rfl (by kernel_rfl) (by kernel_rfl) (by kernel_rfl) (by kernel_rfl) (fun _ _ _ h => h) rfl (v := ?_) ?_ ?_
              rotate_left
              · intro w'; go_simp; (try with_reducible rfl)
              (try simp only [Act.put, List.setIfInBounds_toArray, List.set_cons_zero, List.set_cons_succ])
              refine takeL 1 HS0 rfl (by kernel_rfl) (by kernel_rfl) (by kernel_rfl) (by kernel_rfl) (by kernel_rfl) (fun _ _ _ h => h) rfl (v := ?_) ?_ ?_
              rotate_left
              · intro w' hw'; first | (refine Eq.trans (xLoad (HH.below hw') _ rfl rfl (by first | exact part_all (by first | rfl | simp []) | (simp only [List.drop_succ_cons, List.drop_zero, List.take_succ_cons, List.take_zero]; rfl) | (simp [List.drop_append, List.take_append]; rfl)) (by first | rfl | simp [])) ?_; with_reducible rfl)
              (try simp only [Act.put, List.setIfInBounds_toArray, List.set_cons_zero, List.set_cons_succ])
              refine takeP 2 rfl (by kernel_rfl) (by kernel_rfl) (by kernel_rfl) (by kernel_rfl) (fun _ _ _ h => h) rfl (v := ?_) ?_ ?_
              rotate_left
              · intro w'; go_simp; (try with_reducible rfl)
              (try simp only [Act.put, List.setIfInBounds_toArray, List.set_cons_zero, List.set_cons_succ])
              refine takeP 3 rfl (by kernel_rfl) (by kernel_rfl) (by kernel_rfl) (by kernel_rfl) (fun _ _ _ h => h) rfl (v := ?_) ?_ ?_
              rotate_left
              · intro w'; go_simp; (try with_reducible rfl)
              (try simp only [Act.put, List.setIfInBounds_toArray, List.set_cons_zero, List.set_cons_succ])
              refine takeL 5 HS0 rfl (by kernel_rfl) (by kernel_rfl) (by kernel_rfl) (by kernel_rfl) (by kernel_rfl) (fun _ _ _ h => h) rfl (v := ?_) ?_ ?_
              rotate_left
              · intro w' hw'; first | (refine Eq.trans (xLoad (HH.below hw') _ rfl rfl (by first | exact part_all (by first | rfl | simp []) | (simp only [List.drop_succ_cons, List.drop_zero, List.take_succ_cons, List.take_zero]; rfl) | (simp [List.drop_append, List.take_append]; rfl)) (by first | rfl | simp [])) ?_; with_reducible rfl)
              (try simp only [Act.put, List.setIfInBounds_toArray, List.set_cons_zero, List.set_cons_succ])
              refine takeP 6 rfl (by kernel_rfl) (by kernel_rfl) (by kernel_rfl) (by kernel_rfl) (fun _ _ _ h => h) rfl (v := ?_) ?_ ?_
              rotate_left
              · intro w'; go_simp; (try with_reducible rfl)
              (try simp only [Act.put, List.setIfInBounds_toArray, List.set_cons_zero, List.set_cons_succ])
              refine takeP 7 rfl (by kernel_rfl) (by kernel_rfl) (by kernel_rfl) (by kernel_rfl) (fun _ _ _ h => h) rfl (v := ?_) ?_ ?_
              rotate_left
              · intro w'; go_simp; (try with_reducible rfl)
              (try simp only [Act.put, List.setIfInBounds_toArray, List.set_cons_zero, List.set_cons_succ])
              refine stepL 4 rfl (by kernel_rfl) rfl (fun K hK => ?_)
              (go_simp; (with_reducible refine (c1 _ H.below).mono ?_); rintro e w' ⟨rfl, hb⟩; replace H := H.step hb; replace HS0 := below_two HS0 HS0.size hb; clear hb; refine hK.out _ _ (fun _ _ => HS0) ?_; clear K hK)
              (try simp only [Act.put, List.setIfInBounds_toArray, List.set_cons_zero, List.set_cons_succ])
              refine stepL 8 rfl (by kernel_rfl) rfl (fun K hK => ?_)
              (go_simp; (with_reducible refine (c2 _ H.below).mono ?_); rintro e w' ⟨rfl, hb⟩; replace H := H.step hb; replace HS0 := below_two HS0 HS0.size hb; clear hb; refine hK.out _ _ (fun _ _ => HS0) ?_; clear K hK)
              (try simp only [Act.put, List.setIfInBounds_toArray, List.set_cons_zero, List.set_cons_succ])
              refine stepL 9 rfl (by kernel_rfl) rfl (fun K hK => ?_)
              (go_simp; (with_reducible refine (c3 _).mono ?_); rintro e w' ⟨rfl, hb⟩; replace H := H.step hb; replace HS0 := below_two HS0 HS0.size hb; clear hb; refine hK.out _ _ (fun _ _ => HS0) ?_; clear K hK)
              (try simp only [Act.put, List.setIfInBounds_toArray, List.set_cons_zero, List.set_cons_succ])
              refine takeP 10 rfl (by kernel_rfl) (by kernel_rfl) (by kernel_rfl) (by kernel_rfl) (fun _ _ _ h => h) rfl (v := ?_) ?_ ?_
              rotate_left
              · intro w'; go_simp; (try with_reducible rfl)
              (try simp only [Act.put, List.setIfInBounds_toArray, List.set_cons_zero, List.set_cons_succ])
              refine takeP 11 rfl (by kernel_rfl) (by kernel_rfl) (by kernel_rfl) (by kernel_rfl) (fun _ _ _ h => h) rfl (v := ?_) ?_ ?_
              rotate_left
              · intro w'; go_simp; (try with_reducible rfl)
              (try simp only [Act.put, List.setIfInBounds_toArray, List.set_cons_zero, List.set_cons_succ])
              refine doneL (by kernel_rfl) ?_
              go_wp2
              go_roundw
              case rel => first | exact ⟨k + 1, by go_num, by omega, rfl, H⟩ | exact ⟨_, ⟨k + 1, by go_num, by omega, rfl, H⟩, rfl⟩ | exact ⟨_, _, ⟨k + 1, by go_num, by omega, rfl, H⟩, rfl, rfl⟩ | exact ⟨_, _, _, ⟨k + 1, by go_num, by omega, rfl, H⟩, rfl, rfl, rfl⟩ | exact ⟨_, _, _, _, ⟨k + 1, by go_num, by omega, rfl, H⟩, rfl, rfl, rfl, rfl⟩ | exact ⟨_, _, _, _, _, ⟨k + 1, by go_num, by omega, rfl, H⟩, rfl, rfl, rfl, rfl, rfl⟩
              case measure => simp [intOf] <;> omega
            · obtain rfl : k = c := by omega
              go_wp2_with (first
                | ((with_reducible refine gDst 2 ?_); refine aBox H _ rfl rfl rfl ?_; clear H; intro b2 w2 H)
                | ((with_reducible refine gDst 3 ?_); refine aBox H _ rfl rfl rfl ?_; clear H; intro b3 w3 H)
                | ((with_reducible refine gDst 4 ?_); refine aAlloc H rfl rfl ?_; clear H; intro b4 w4 H)
                | ((with_reducible refine gDst 6 ?_); refine aAlloc H rfl rfl ?_; clear H; intro b6 w6 H)
                | ((with_reducible refine gLoad ?_); first | (refine aLoad1 H _ rfl rfl (by first | exact (rfl : _ = some (Value.int _ _)) | exact (rfl : _ = some (Value.slice _ _ _)) | exact (rfl : _ = some (Value.bool _)) | exact (rfl : _ = some (Value.string _)) | exact (rfl : _ = some (Value.pointer _)) | rfl | (simp [List.getElem?_append]; done)) rfl ?_) | (refine aLoadC _ rfl rfl (by assumption) rfl ?_) | (refine aLoad H _ rfl rfl (by first | exact part_all (by first | rfl | simp []) | (simp only [List.drop_succ_cons, List.drop_zero, List.take_succ_cons, List.take_zero]; rfl) | (simp [List.drop_append, List.take_append]; rfl)) (by first | rfl | simp []) rfl ?_))
                | ((with_reducible refine gBuild ?_); refine aZero rfl rfl ?_)
                | ((with_reducible refine gStore ?_); (first | (refine aCell H _ _ rfl rfl (by first | exact (rfl : _ = Value.int _ _) | exact (rfl : _ = Value.bool _) | exact (rfl : _ = Value.slice _ _ _) | exact (rfl : _ = Value.string _) | exact (rfl : _ = Value.pointer _) | exact (rfl : _ = Value.func _ _ _) | rfl) (by rfl) (by rfl) (by first | exact of_decide_eq_true rfl | (simp []; done) | (simp []; omega)) (by first | (simp only [List.set_cons_zero, List.set_cons_succ]; rfl) | (simp [List.set_append]; rfl)) rfl ?_) | (refine aStore H _ _ rfl rfl rfl (by (first | exact ⟨rfl, rfl⟩ | exact ⟨by decide, rfl⟩ | (simp []; done) | (constructor <;> simp [] <;> omega))) (by first | rfl | simp [List.all_append, one_all]) rfl ?_) | (refine aLay H _ _ rfl rfl rfl (by (first | exact ⟨rfl, rfl⟩ | exact ⟨by decide, rfl⟩ | (simp []; done) | (constructor <;> simp [] <;> omega))) (by first | rfl | simp [List.all_append, one_all]) (by simp only [lay, List.take_succ_cons, List.take_zero, List.drop_succ_cons, List.drop_zero, List.nil_append, List.cons_append, List.length_cons, List.length_nil, Nat.zero_add, Nat.reduceAdd]; rfl) rfl ?_)); clear H; intro w' H; try dsimp only at H)
                | (at_builtin; refine aAppB1 _ H _ _ rfl rfl rfl (by first | omega | (have := HCL.out; omega)) rfl ?_; clear H; intro v' w' ys HY H; (try dsimp only at H); obtain ⟨A', c', rfl, hc'⟩ := (H.hold.rr v').len))
              go_roundw
              case rel => first | exact ⟨j + 1, _, _, _, by go_num, by omega, HY.out.trans HST.out, H⟩ | exact ⟨_, ⟨j + 1, _, _, _, by go_num, by omega, HY.out.trans HST.out, H⟩, rfl⟩ | exact ⟨_, _, ⟨j + 1, _, _, _, by go_num, by omega, HY.out.trans HST.out, H⟩, rfl, rfl⟩ | exact ⟨_, _, _, ⟨j + 1, _, _, _, by go_num, by omega, HY.out.trans HST.out, H⟩, rfl, rfl, rfl⟩ | exact ⟨_, _, _, _, ⟨j + 1, _, _, _, by go_num, by omega, HY.out.trans HST.out, H⟩, rfl, rfl, rfl, rfl⟩ | exact ⟨_, _, _, _, _, ⟨j + 1, _, _, _, by go_num, by omega, HY.out.trans HST.out, H⟩, rfl, rfl, rfl, rfl, rfl⟩
              case measure => simp [intOf] <;> omega
        · obtain rfl : j = cb := by omega
          have hcur := HC.out
          rw [← fillL_succ] at hcur
          subst hcur
          clear HC
          go_wp2_with (first
            | ((with_reducible refine gDst 2 ?_); refine aBox H _ rfl rfl rfl ?_; clear H; intro b2 w2 H)
            | ((with_reducible refine gDst 3 ?_); refine aBox H _ rfl rfl rfl ?_; clear H; intro b3 w3 H)
            | ((with_reducible refine gDst 4 ?_); refine aAlloc H rfl rfl ?_; clear H; intro b4 w4 H)
            | ((with_reducible refine gDst 6 ?_); refine aAlloc H rfl rfl ?_; clear H; intro b6 w6 H)
            | ((with_reducible refine gLoad ?_); first | (refine aLoad1 H _ rfl rfl (by first | exact (rfl : _ = some (Value.int _ _)) | exact (rfl : _ = some (Value.slice _ _ _)) | exact (rfl : _ = some (Value.bool _)) | exact (rfl : _ = some (Value.string _)) | exact (rfl : _ = some (Value.pointer _)) | rfl | (simp [List.getElem?_append]; done)) rfl ?_) | (refine aLoadC _ rfl rfl (by assumption) rfl ?_) | (refine aLoad H _ rfl rfl (by first | exact part_all (by first | rfl | simp []) | (simp only [List.drop_succ_cons, List.drop_zero, List.take_succ_cons, List.take_zero]; rfl) | (simp [List.drop_append, List.take_append]; rfl)) (by first | rfl | simp []) rfl ?_))
            | ((with_reducible refine gBuild ?_); refine aZero rfl rfl ?_)
            | ((with_reducible refine gStore ?_); (first | (refine aCell H _ _ rfl rfl (by first | exact (rfl : _ = Value.int _ _) | exact (rfl : _ = Value.bool _) | exact (rfl : _ = Value.slice _ _ _) | exact (rfl : _ = Value.string _) | exact (rfl : _ = Value.pointer _) | exact (rfl : _ = Value.func _ _ _) | rfl) (by rfl) (by rfl) (by first | exact of_decide_eq_true rfl | (simp []; done) | (simp []; omega)) (by first | (simp only [List.set_cons_zero, List.set_cons_succ]; rfl) | (simp [List.set_append]; rfl)) rfl ?_) | (refine aStore H _ _ rfl rfl rfl (by (first | exact ⟨rfl, rfl⟩ | exact ⟨by decide, rfl⟩ | (simp []; done) | (constructor <;> simp [] <;> omega))) (by first | rfl | simp [List.all_append, one_all]) rfl ?_) | (refine aLay H _ _ rfl rfl rfl (by (first | exact ⟨rfl, rfl⟩ | exact ⟨by decide, rfl⟩ | (simp []; done) | (constructor <;> simp [] <;> omega))) (by first | rfl | simp [List.all_append, one_all]) (by simp only [lay, List.take_succ_cons, List.take_zero, List.drop_succ_cons, List.drop_zero, List.nil_append, List.cons_append, List.length_cons, List.length_nil, Nat.zero_add, Nat.reduceAdd]; rfl) rfl ?_)); clear H; intro w' H; try dsimp only at H)
            | (at_builtin; refine aAppB1 _ H _ _ rfl rfl rfl (by first | omega | (have := HCL.out; omega)) rfl ?_; clear H; intro v' w' ys HY H; (try dsimp only at H); obtain ⟨A', c', rfl, hc'⟩ := (H.hold.rr v').len))
          go_roundw
          case rel => first | exact ⟨i + 1, _, _, by go_num, by omega, H⟩ | exact ⟨_, ⟨i + 1, _, _, by go_num, by omega, H⟩, rfl⟩ | exact ⟨_, _, ⟨i + 1, _, _, by go_num, by omega, H⟩, rfl, rfl⟩ | exact ⟨_, _, _, ⟨i + 1, _, _, by go_num, by omega, H⟩, rfl, rfl, rfl⟩ | exact ⟨_, _, _, _, ⟨i + 1, _, _, by go_num, by omega, H⟩, rfl, rfl, rfl, rfl⟩ | exact ⟨_, _, _, _, _, ⟨i + 1, _, _, by go_num, by omega, H⟩, rfl, rfl, rfl, rfl, rfl⟩
          case measure => simp [intOf] <;> omega
    · obtain rfl : i = ra := by omega
      go_wp2_with (first
        | ((with_reducible refine gDst 2 ?_); refine aBox H _ rfl rfl rfl ?_; clear H; intro b2 w2 H)
        | ((with_reducible refine gDst 3 ?_); refine aBox H _ rfl rfl rfl ?_; clear H; intro b3 w3 H)
        | ((with_reducible refine gDst 4 ?_); refine aAlloc H rfl rfl ?_; clear H; intro b4 w4 H)
        | ((with_reducible refine gDst 6 ?_); refine aAlloc H rfl rfl ?_; clear H; intro b6 w6 H)
        | ((with_reducible refine gLoad ?_); first | (refine aLoad1 H _ rfl rfl (by first | exact (rfl : _ = some (Value.int _ _)) | exact (rfl : _ = some (Value.slice _ _ _)) | exact (rfl : _ = some (Value.bool _)) | exact (rfl : _ = some (Value.string _)) | exact (rfl : _ = some (Value.pointer _)) | rfl | (simp [List.getElem?_append]; done)) rfl ?_) | (refine aLoadC _ rfl rfl (by assumption) rfl ?_) | (refine aLoad H _ rfl rfl (by first | exact part_all (by first | rfl | simp []) | (simp only [List.drop_succ_cons, List.drop_zero, List.take_succ_cons, List.take_zero]; rfl) | (simp [List.drop_append, List.take_append]; rfl)) (by first | rfl | simp []) rfl ?_))
        | ((with_reducible refine gBuild ?_); refine aZero rfl rfl ?_)
        | ((with_reducible refine gStore ?_); (first | (refine aCell H _ _ rfl rfl (by first | exact (rfl : _ = Value.int _ _) | exact (rfl : _ = Value.bool _) | exact (rfl : _ = Value.slice _ _ _) | exact (rfl : _ = Value.string _) | exact (rfl : _ = Value.pointer _) | exact (rfl : _ = Value.func _ _ _) | rfl) (by rfl) (by rfl) (by first | exact of_decide_eq_true rfl | (simp []; done) | (simp []; omega)) (by first | (simp only [List.set_cons_zero, List.set_cons_succ]; rfl) | (simp [List.set_append]; rfl)) rfl ?_) | (refine aStore H _ _ rfl rfl rfl (by (first | exact ⟨rfl, rfl⟩ | exact ⟨by decide, rfl⟩ | (simp []; done) | (constructor <;> simp [] <;> omega))) (by first | rfl | simp [List.all_append, one_all]) rfl ?_) | (refine aLay H _ _ rfl rfl rfl (by (first | exact ⟨rfl, rfl⟩ | exact ⟨by decide, rfl⟩ | (simp []; done) | (constructor <;> simp [] <;> omega))) (by first | rfl | simp [List.all_append, one_all]) (by simp only [lay, List.take_succ_cons, List.take_zero, List.drop_succ_cons, List.drop_zero, List.nil_append, List.cons_append, List.length_cons, List.length_nil, Nat.zero_add, Nat.reduceAdd]; rfl) rfl ?_)); clear H; intro w' H; try dsimp only at H)
        | (at_builtin; refine aAppB1 _ H _ _ rfl rfl rfl (by first | omega | (have := HCL.out; omega)) rfl ?_; clear H; intro v' w' ys HY H; (try dsimp only at H); obtain ⟨A', c', rfl, hc'⟩ := (H.hold.rr v').len))
      refine bodyPost_ret (res_cell_tmp rfl _ H.hold rfl rfl) rfl ?_
      exact ⟨A, cp, rfl, H.ow _, H.below⟩
end Go.Proofs.Ytfnneneaalaagaa
