/- Texts joined: Copy. -/
import Derived.Test.YtdnahagibodnpaaRows
import Derived.Test.YtdnahagibodnpaaNL06
import Derived.Test.YtdnahagibodnpaaNL02
/- The laws' own lists: copyBytes, roomy, roomyIs. -/
namespace Go.Proofs.Ytdnahagibodnpaa
set_option linter.unusedSectionVars false
set_option linter.unusedSimpArgs false
open Go Go.RowKit
set_option linter.unusedVariables false
theorem byteTyC : ByteTy Try.prog 23 5 := by
  obtain ⟨i, hi⟩ := Option.isSome_iff_exists.1 (show (Try.prog.info? 5).isSome = true by kernel_rfl)
  have h : (Try.prog.info? 5).map (fun i => (i.zero, i.size, i.bytes)) = some (some (.int .u8 0), 1, 1) := by kernel_rfl
  rw [hi] at h
  simp only [Option.map_some, Option.some.injEq, Prod.mk.injEq] at h
  exact ⟨i, Try.underlying23, hi, h.1, h.2.1, h.2.2⟩
end Go.Proofs.Ytdnahagibodnpaa
