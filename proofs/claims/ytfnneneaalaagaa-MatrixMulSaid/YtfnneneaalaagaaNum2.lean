/- The package num: what is taken. -/
import Derived.Test.YtfnneneaalaagaaNum
namespace Go.Proofs.Ytfnneneaalaagaa
open Go.RowKit

end Go.Proofs.Ytfnneneaalaagaa
