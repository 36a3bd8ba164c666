/- The package num: a string, taken. -/
import Derived.Test.YtfnneneaalaagaaNum3
namespace Go.Proofs.Ytfnneneaalaagaa
open Go.RowKit

theorem tkR_le (xs : List UInt8) : (tkR xs).length ≤ xs.length := by unfold tkR; split <;> simp

end Go.Proofs.Ytfnneneaalaagaa
