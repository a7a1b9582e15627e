/- What is proved: two closed facts of the whole program, each by itself, for the cards of all laws of the seat (the whole of them at once takes more memory than there is). -/
import Derived.Test.YtiinnnbpbnojgaaGreatDoorTc
namespace Go.Proofs.YtiinnnbpbnojgaaGreatDoor
open Go
theorem jf_laid : laidOutB Tryz.prog = true := by kernel_rfl
theorem jf_maps : mapsRowed Tryz.prog = true := by kernel_rfl
end Go.Proofs.YtiinnnbpbnojgaaGreatDoor
