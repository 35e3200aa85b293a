/- One climb reckoned by the kernel. -/
import Derived.Test.YtonpbmjgoenfdaaDoorTabs
import Derived.Test.YtonpbmjgoenfdaaDoorStepsWalk
namespace Go.Proofs.YtonpbmjgoenfdaaDoor
open Go
theorem climb_one : climbD begin8 roundT 32 zero32 0 oneD 1 ≠ zero32 := fun h => by
  have h1 : (climbD begin8 roundT 32 zero32 0 oneD 1).1.getD 0 0 = 157 := by decide +kernel
  rw [h] at h1
  exact absurd h1 (by decide)
end Go.Proofs.YtonpbmjgoenfdaaDoor
