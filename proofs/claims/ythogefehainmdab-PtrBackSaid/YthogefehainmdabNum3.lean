/- The package num: a short number, taken. -/
import Derived.Test.YthogefehainmdabNum2
namespace Go.Proofs.Ythogefehainmdab
open Go.RowKit

end Go.Proofs.Ythogefehainmdab
