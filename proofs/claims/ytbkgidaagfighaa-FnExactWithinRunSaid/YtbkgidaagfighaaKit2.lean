/- More small lemmas: chains of calls. Conditions: none. -/
import Derived.Test.YtbkgidaagfighaaKitE
namespace Go.Proofs.Ytbkgidaagfighaa
open Go.RowKit
/-- one call more -/
theorem below_next {B : Nat} {W w1 w2 : World} (h2 : Below w1.heap.size w1 w2) (h : Below B W w1) (hB : B ≤ W.heap.size) : Below B W w2 := h.trans (h2.mono (Nat.le_trans hB h.size))
theorem below_next_drew {B : Nat} {W w1 w2 : World} (h2 : Below w1.heap.size w1.drew w2) (h : Below B W w1) (hB : B ≤ W.heap.size) : Below B W w2 := below_next (w1 := w1.drew) h2 h.drew hB
end Go.Proofs.Ytbkgidaagfighaa
