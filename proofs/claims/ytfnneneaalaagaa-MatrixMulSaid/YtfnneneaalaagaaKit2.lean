/- More words on strings. -/
import Derived.Test.YtfnneneaalaagaaKit
namespace Go.Proofs.Ytfnneneaalaagaa
open Go.RowKit

theorem str_add (x y : List UInt8) : str x ++ str y = str (x ++ y) := by
  apply ByteArray.ext
  show (str x ++ str y).data = _
  rw [ByteArray.data_append]
  simp [str]
theorem str_size (x : List UInt8) : (str x).size = x.length := by simp [str, ByteArray.size]
/-- '+' of two strings. -/
theorem run_add_str {P : Program} (t : TypeId) (x y : List UInt8) (h : x.length + y.length ≤ 9223372036854775807) (w : World) : (binOp .add t (.string (str x)) (.string (str y))).run P w = .ok (.string (str (x ++ y))) w := by
  have hn : ¬ ((((str x).size + (str y).size : Nat) : Int) > IntKind.i64.max) := by rw [str_size, str_size]; simp [IntKind.max, IntKind.bits, IntKind.signed]; omega
  simp only [binOp, Op.stringOp, if_neg hn, str_add, Sem.run_pure]
theorem cat_small (x y : List UInt8) (h : x.length + y.length ≤ 9223372036854775807) : ¬ 9223372036854775807 < (str x).size + (str y).size := by rw [str_size, str_size]; omega
end Go.Proofs.Ytfnneneaalaagaa
