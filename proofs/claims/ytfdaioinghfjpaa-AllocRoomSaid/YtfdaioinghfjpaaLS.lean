/- How a size, with a chunk that is not asked, reads. -/
import Derived.Test.YtfdaioinghfjpaaLR
import Derived.Test.YtfdaioinghfjpaaG16
namespace Go.Proofs.Ytfdaioinghfjpaa
open Go.Rd Go.RowKit Go.ChangeShapes Go.WideShapes
theorem readsS : Reads Try.prog 48 2 encS fun _ => True := by
  refine ⟨by kernel_rfl, fun H enc w base held n cs y h => ?_⟩
  have hs : structOf Try.prog 48 = some [(0, 3), (1, 3)] := by kernel_rfl
  obtain ⟨n0, h0, w0⟩ := field_int hs h (i := 0) rfl (k := .i64) (by kernel_rfl) (by kernel_rfl)
  obtain ⟨n1, h1, w1⟩ := field_int hs h (i := 1) rfl (k := .i64) (by kernel_rfl) (by kernel_rfl)
  refine ⟨⟨n0, n1⟩, trivial, rfl, fun j x hj => ?_⟩
  match j, hj with
  | 0, hj => cases hj; exact ⟨_, h0, .lit _ rfl⟩
  | 1, hj => cases hj; exact ⟨_, h1, .lit _ rfl⟩
end Go.Proofs.Ytfdaioinghfjpaa
