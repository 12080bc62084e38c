/- Short names for the longest texts. -/
import Derived.Test.YtkabbahfaeeihaaQ0
namespace Go.Proofs.Ytkabbahfaeeihaa.Q
theorem wlt (w : World) (a : Addr) {u : Value} (h : w.cell? a = some u) : a.block < w.heap.size := World.block_lt_of_cell? w a h
end Go.Proofs.Ytkabbahfaeeihaa.Q
