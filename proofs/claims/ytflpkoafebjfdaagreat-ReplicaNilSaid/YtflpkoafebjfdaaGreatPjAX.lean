/- Joined texts: Ask0. What each proves stands at its head; no conditions beside those in its theorems. -/
import Derived.Test.YtflpkoafebjfdaaGreatPjAP
import Derived.Test.YtflpkoafebjfdaaGreatPjAS
/- A request's cells. -/
namespace Go.Proofs.YtflpkoafebjfdaaGreat
open Go.RowKit Go.Lib F64
theorem info_req6 : (Tryz.prog.info? 37).map (·.size) = some 6 := by kernel_rfl
end Go.Proofs.YtflpkoafebjfdaaGreat
