/- One digest reckoned by the kernel: that of the byte 2. -/
import Derived.Test.YtonpbmjgoenfdaaDoorTabs
import Derived.Test.YtonpbmjgoenfdaaDoorHashWalk
namespace Go.Proofs.YtonpbmjgoenfdaaDoor
open Go
theorem sha_two : sha begin8 roundT [2] ≠ zero32 := fun h => by
  have h1 : (shaD begin8.list roundT [2]).getD 0 0 = 219 := by decide +kernel
  have h2 : shaD begin8.list roundT [2] = zero32.1 := congrArg Subtype.val h
  rw [h2] at h1
  exact absurd h1 (by decide)
end Go.Proofs.YtonpbmjgoenfdaaDoor
