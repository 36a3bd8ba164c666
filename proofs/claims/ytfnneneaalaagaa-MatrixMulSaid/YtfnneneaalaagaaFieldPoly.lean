/- Polynomials, sums of products, and the polynomial through places. Plain. -/
import Derived.Test.YtfnneneaalaagaaFieldLaw
namespace Go.Proofs.Ytfnneneaalaagaa

/-- A polynomial at a place. -/
def evalH (x : UInt8) : List UInt8 → UInt8
  | [] => 0
  | p :: ps => fmul (evalH x ps) x ^^^ p
/-- A sum of products. -/
def dotL : List UInt8 → List UInt8 → UInt8
  | x :: xs, y :: ys => fmul x y ^^^ dotL xs ys
  | _, _ => 0
/-- The product of v less each place but place i; the places are counted from j. -/
def pb (v : UInt8) (i : Nat) : Nat → List UInt8 → UInt8
  | _, [] => 1
  | j, x :: xs => fmul (if j = i then 1 else v ^^^ x) (pb v i (j + 1) xs)
/-- Whether two places are the same. -/
def thBad (xs : List UInt8) : Nat → List UInt8 → Bool
  | _, [] => false
  | i, _ :: ys => (pb (xs.getD i 0) i 0 xs == 0) || thBad xs (i + 1) ys
/-- The sum. -/
def thSum (xs : List UInt8) (v : UInt8) : Nat → List UInt8 → UInt8
  | _, [] => 0
  | i, y :: ys => fmul y (fmul (pb v i 0 xs) (finv (pb (xs.getD i 0) i 0 xs))) ^^^ thSum xs v (i + 1) ys
theorem mul_fpow (a b : UInt8) (n : Nat) : fpow (fmul a b) n = fmul (fpow a n) (fpow b n) := by
  induction n with
  | zero => rw [fpow, fpow, fpow, fmul_one]
  | succ n ih => rw [fpow, fpow, fpow, ih, fmul_assoc, fmul_assoc, ← fmul_assoc (fpow b n), ← fmul_assoc a, fmul_comm (fpow b n) a]
theorem finv_mul (a b : UInt8) : finv (fmul a b) = fmul (finv a) (finv b) := mul_fpow a b 254
theorem finv_one : finv 1 = 1 := one_fpow 254
theorem xor_cancel (a b : UInt8) : a ^^^ (a ^^^ b) = b := by rw [← UInt8.xor_assoc]; simp
end Go.Proofs.Ytfnneneaalaagaa
