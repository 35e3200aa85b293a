/- Texts joined: Law3, Law4, Law5, Law6. -/
import Derived.Test.YtehnnnohoaapdaaBG13
/- The book: one more page. -/
namespace Go.Proofs.Ytehnnnohoaapdaa
open Go Go.RowKit
set_option linter.unusedVariables false
set_option linter.unusedSimpArgs false
end Go.Proofs.Ytehnnnohoaapdaa

/- The book: does the file hold what stands in it? -/
namespace Go.Proofs.Ytehnnnohoaapdaa
open Go Go.RowKit
set_option linter.unusedVariables false
set_option linter.unusedSimpArgs false
end Go.Proofs.Ytehnnnohoaapdaa

/- One act on the book: Append. -/
namespace Go.Proofs.Ytehnnnohoaapdaa
open Go Go.RowKit
set_option linter.unusedVariables false
set_option linter.unusedSimpArgs false
theorem Mem.off {w0 w : World} {F : List Nat} {L : List Asn} {ao : Option Addr} {n c : Nat} {l : List UInt8} (h : Mem w0 F w (bytesL (.slice ao n c) l :: L)) : ∀ {k : Nat} (b o : Nat), ao = some ⟨b, o, none⟩ → 0 < k → b ∉ foots L := by
  intro k b o e _ hb
  subst e
  have hn := h.nodup
  rw [foots_cons, List.nodup_append] at hn
  exact hn.2.2 b (by show b ∈ obs (Value.slice (some ⟨b, o, none⟩) n c); rw [mem_obs]; rfl) b hb rfl
theorem Mem.old_off {w0 w : World} {F : List Nat} {L : List Asn} (h : Mem w0 F w L) {b : Nat} (hb : b < w0.heap.size) (hF : b ∉ F) : b ∉ foots L := fun hx => by
  rcases h.new b hx with h1 | h1
  · exact hF h1
  · omega
end Go.Proofs.Ytehnnnohoaapdaa

/- One act on the book: Publish, Forget, Arm. -/
namespace Go.Proofs.Ytehnnnohoaapdaa
open Go Go.RowKit
set_option linter.unusedVariables false
set_option linter.unusedSimpArgs false
end Go.Proofs.Ytehnnnohoaapdaa
