/- An argument of type int64 lies in its range. -/
import Derived.Test.YtegfchjnkkobcaaPlain
import Derived.OpenShut
namespace Go.Proofs.Ytegfchjnkkobcaa
open Go.RowKit Go.ChangeShapes Go.WideShapes
theorem wf_fit {n : Int} (h : (Lit.int .i64 n).wf = true) : Fit n := by
  have := bounds_i64 h; unfold Fit; omega
end Go.Proofs.Ytegfchjnkkobcaa
