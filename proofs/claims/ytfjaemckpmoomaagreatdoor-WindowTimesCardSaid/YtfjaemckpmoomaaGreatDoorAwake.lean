/- The anchor's run, by the kernel. -/
import Derived.Test.YtfjaemckpmoomaaGreatDoorLaneB
import Derived.Test.YtfjaemckpmoomaaGreatDoorFields
import Derived.Test.YtfjaemckpmoomaaGreatDoorProg
import Derived.KernelRfl
namespace Go.Proofs.YtfjaemckpmoomaaGreatDoor.Lane
open Go.Proofs
theorem runA (et : TypeId) : yesOut (driveF Tryz.prog [e0, e1, e2, e3] 6 100000 (some 6) false (startA Tryz.prog 6 []) 1000 (tabHeap 6 0 et (tabCells spaces)) .leaf) = true := by kernel_rfl
end Go.Proofs.YtfjaemckpmoomaaGreatDoor.Lane
