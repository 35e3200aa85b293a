/- The empty subtrees at the full width: what the kernel reckoned, joined. -/
import Derived.Test.YtonpbmjgoenfdaaDoorEm0
import Derived.Test.YtonpbmjgoenfdaaDoorEm1
import Derived.Test.YtonpbmjgoenfdaaDoorEm2
import Derived.Test.YtonpbmjgoenfdaaDoorEm3
import Derived.Test.YtonpbmjgoenfdaaDoorTowerWalk
namespace Go.Proofs.YtonpbmjgoenfdaaDoor
open Go
theorem empty_first : emptyD begin8 roundT 32 0 ≠ zero32 := fun h => by
  rw [emptyD_at begin8 roundT 32 0 0 (by decide)] at h
  have h1 := v0
  rw [h] at h1
  exact absurd h1 (by decide)
theorem empty_last : emptyD begin8 roundT 32 256 ≠ emptyD begin8 roundT 32 255 := fun h => by
  rw [emptyD_at begin8 roundT 32 256 256 (by decide), emptyD_at begin8 roundT 32 255 255 (by decide)] at h
  obtain ⟨h1, h2⟩ := c3 (c2 (c1 (c0 v0).2).2).2
  rw [h, h1] at h2
  exact absurd h2 (by decide)
end Go.Proofs.YtonpbmjgoenfdaaDoor
