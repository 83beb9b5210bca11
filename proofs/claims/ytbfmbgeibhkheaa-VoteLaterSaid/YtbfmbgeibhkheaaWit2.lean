/- Starts that fit: a state and a Data of zeros. -/
import Derived.Test.YtbfmbgeibhkheaaWit
namespace Go.Proofs.Ytbfmbgeibhkheaa
open Go.ChangeShapes Go.WideShapes Go.ChangeAt Go.RowKit
set_option maxRecDepth 100000
theorem wit_state (w : World) : Value.okWideB Try.prog w 49 (.agg (zeroOf Try.prog 49)) = true := okWideB_agg Try.underlying49 rfl (by kernel_rfl) (by kernel_rfl)
theorem wit_data (w : World) : Value.okWideB Try.prog w 51 (.agg (zeroOf Try.prog 51)) = true := okWideB_agg Try.underlying51 rfl (by kernel_rfl) (by kernel_rfl)
end Go.Proofs.Ytbfmbgeibhkheaa
