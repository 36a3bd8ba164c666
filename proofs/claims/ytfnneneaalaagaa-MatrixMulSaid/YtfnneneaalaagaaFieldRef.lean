/- The reference's product, by bits. Plain. -/
import Derived.Test.YtfnneneaalaagaaFieldLaw
namespace Go.Proofs.Ytfnneneaalaagaa

theorem nxor4 (a b c d : Nat) : (a ^^^ b) ^^^ (c ^^^ d) = (a ^^^ c) ^^^ (b ^^^ d) := by
  rw [Nat.xor_assoc, Nat.xor_assoc, ← Nat.xor_assoc b, Nat.xor_comm b c, Nat.xor_assoc c]
theorem mul_two_pow_xor (a b i : Nat) : (a ^^^ b) * 2 ^ i = a * 2 ^ i ^^^ b * 2 ^ i := by
  have := @Nat.shiftLeft_xor_distrib i a b
  simpa [Nat.shiftLeft_eq] using this

/-- The sum of what a's bits below i bring of b. -/
def cl (a b : Nat) : Nat → Nat
  | 0 => 0
  | i + 1 => cl a b i ^^^ (if a.testBit i then b * 2 ^ i else 0)
/-- One step of dividing out. -/
def rdStep (i N : Nat) : Nat := if N.testBit i then N ^^^ 285 * 2 ^ (i - 8) else N
def rdF : Nat → Nat → Nat
  | 0, N => N
  | k + 1, N => rdF k (rdStep (8 + k) N)

theorem cl_add_right (a x y i : Nat) : cl a (x ^^^ y) i = cl a x i ^^^ cl a y i := by
  induction i with
  | zero => simp [cl]
  | succ i ih =>
    rw [cl, cl, cl, ih, nxor4]
    congr 1
    split
    · exact mul_two_pow_xor x y i
    · simp
theorem cl_add_left (b x y i : Nat) : cl (x ^^^ y) b i = cl x b i ^^^ cl y b i := by
  induction i with
  | zero => simp [cl]
  | succ i ih =>
    rw [cl, cl, cl, ih, nxor4]
    congr 1
    rw [Nat.testBit_xor]
    cases x.testBit i <;> cases y.testBit i <;> simp
theorem rdStep_add (i x y : Nat) : rdStep i (x ^^^ y) = rdStep i x ^^^ rdStep i y := by
  unfold rdStep
  rw [Nat.testBit_xor]
  generalize 285 * 2 ^ (i - 8) = m
  cases x.testBit i <;> cases y.testBit i <;> simp
  · rw [Nat.xor_assoc]
  · rw [Nat.xor_assoc, Nat.xor_assoc, Nat.xor_comm y m]
  · rw [nxor4]; simp
theorem rdF_add (k : Nat) : ∀ x y, rdF k (x ^^^ y) = rdF k x ^^^ rdF k y := by
  induction k with
  | zero => intro x y; rfl
  | succ k ih => intro x y; rw [rdF, rdF, rdF, rdStep_add, ih]

/-- The reference's product. -/
def rmul (a b : UInt8) : UInt8 := UInt8.ofNat (rdF 8 (cl a.toNat b.toNat 8))
theorem rmul_eq (a b : UInt8) : rmul a b = fmul a b := by
  have hl : ∀ b, Additive (fun a => rmul a b) := fun b x y => by
    show UInt8.ofNat (rdF 8 (cl (x ^^^ y).toNat b.toNat 8)) = _
    rw [UInt8.toNat_xor, cl_add_left, rdF_add, UInt8.ofNat_xor]
    rfl
  have hr : ∀ a, Additive (fun b => rmul a b) := fun a x y => by
    show UInt8.ofNat (rdF 8 (cl a.toNat (x ^^^ y).toNat 8)) = _
    rw [UInt8.toNat_xor, cl_add_right, rdF_add, UInt8.ofNat_xor]
    rfl
  refine add_ext' (f := fun a => rmul a b) (g := fun a => fmul a b) (hl b) (fmul_add_left b) (fun p hp => ?_) a
  refine add_ext' (f := fun b => rmul p b) (g := fun b => fmul p b) (hr p) (fmul_add_right p) (fun q hq => ?_) b
  have : ∀ p ∈ pow2s, ∀ q ∈ pow2s, rmul p q = fmul p q := by decide +kernel
  exact this p hp q hq

/-- A number's bits as cells. -/
def bit1 (N t : Nat) : Int := if N.testBit t then 1 else 0
def bitL (N : Nat) : List Int := (List.range 16).map (bit1 N)
theorem bitL_length (N : Nat) : (bitL N).length = 16 := by simp [bitL]
theorem bitL_get (N t : Nat) (h : t < 16) : (bitL N)[t]? = some (bit1 N t) := by simp [bitL, h]
theorem bitL_flip (N t : Nat) (h : t < 16) : (bitL N).set t (1 - bit1 N t) = bitL (N ^^^ 2 ^ t) := by
  apply List.ext_getElem?
  intro j
  rw [List.getElem?_set]
  by_cases hj : t = j
  · subst hj
    rw [if_pos rfl, bitL_length, if_pos h, bitL_get _ _ h]
    unfold bit1
    rw [Nat.testBit_xor, Nat.testBit_two_pow_self]
    cases N.testBit t <;> simp
  · rw [if_neg hj]
    by_cases hj2 : j < 16
    · rw [bitL_get _ _ hj2, bitL_get _ _ hj2]
      unfold bit1
      rw [Nat.testBit_xor, Nat.testBit_two_pow_of_ne hj]
      simp
    · rw [List.getElem?_eq_none (by rw [bitL_length]; omega), List.getElem?_eq_none (by rw [bitL_length]; omega)]

/-- What the inner loop has brought behind j rounds. -/
def clIn (a b i j : Nat) : Nat := cl a b i ^^^ (if a.testBit i then (b % 2 ^ j) * 2 ^ i else 0)
theorem clIn_zero (a b i : Nat) : clIn a b i 0 = cl a b i := by unfold clIn; simp [Nat.mod_one]
theorem clIn_all (a b i : Nat) (hb : b < 256) : clIn a b i 8 = cl a b (i + 1) := by
  unfold clIn
  rw [cl, Nat.mod_eq_of_lt (by omega : b < 2 ^ 8)]
theorem mod_two_pow_succ_xor (b j : Nat) : b % 2 ^ (j + 1) = b % 2 ^ j ^^^ (if b.testBit j then 2 ^ j else 0) := by
  apply Nat.eq_of_testBit_eq
  intro t
  rw [Nat.testBit_xor, Nat.testBit_mod_two_pow, Nat.testBit_mod_two_pow]
  by_cases h1 : t < j
  · have : ((if b.testBit j then 2 ^ j else 0) : Nat).testBit t = false := by
      split
      · exact Nat.testBit_two_pow_of_ne (by omega)
      · simp
    rw [this]; simp [h1, (by omega : t < j + 1)]
  · by_cases h2 : t = j
    · subst h2
      cases hb : b.testBit t
      · simp
      · simp [Nat.testBit_two_pow_self]
    · have : ((if b.testBit j then 2 ^ j else 0) : Nat).testBit t = false := by
        split
        · exact Nat.testBit_two_pow_of_ne (by omega)
        · simp
      have h3 : ¬ t < j + 1 := by omega
      rw [this]; simp [h1, h3]
theorem clIn_yes (a b i j : Nat) (ha : a.testBit i = true) (hb : b.testBit j = true) : clIn a b i j ^^^ 2 ^ (i + j) = clIn a b i (j + 1) := by
  unfold clIn
  rw [if_pos ha, if_pos ha, mod_two_pow_succ_xor, hb, if_pos rfl, mul_two_pow_xor, ← Nat.xor_assoc, Nat.pow_add, Nat.mul_comm (2 ^ i)]
theorem clIn_no (a b i j : Nat) (h : a.testBit i = false ∨ b.testBit j = false) : clIn a b i j = clIn a b i (j + 1) := by
  unfold clIn
  rcases h with h | h
  · rw [h]; simp
  · rw [mod_two_pow_succ_xor, h]; simp

/-- The exponents of what is divided out. -/
def exps : List Nat := [8, 4, 3, 2, 0]
/-- Behind j of the five flips. -/
def rdIn (i N : Nat) : Nat → Nat
  | 0 => N
  | j + 1 => rdIn i N j ^^^ 2 ^ (i - 8 + exps.getD j 0)
theorem rdIn_all (i N : Nat) : rdIn i N 5 = N ^^^ 285 * 2 ^ (i - 8) := by
  have h : (285 : Nat) = 2 ^ 8 ^^^ (2 ^ 4 ^^^ (2 ^ 3 ^^^ (2 ^ 2 ^^^ 2 ^ 0))) := by decide
  simp only [rdIn, exps, List.getD_cons_zero, List.getD_cons_succ, Nat.pow_add]
  rw [h, mul_two_pow_xor, mul_two_pow_xor, mul_two_pow_xor, mul_two_pow_xor]
  simp only [Nat.xor_assoc, Nat.mul_comm (2 ^ (i - 8))]
end Go.Proofs.Ytfnneneaalaagaa
