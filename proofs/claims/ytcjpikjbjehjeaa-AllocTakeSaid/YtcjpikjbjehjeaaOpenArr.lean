/- How an argument that is a short array is opened. -/
import Derived.Test.YtcjpikjbjehjeaaOpen
namespace Go.Proofs.YtcjpikjbjehjeaaOpen
open Go.RowKit Go.WideShapes
theorem okWide_array {P : Program} {w : World} {r : Reach} {base : Nat} {t e : TypeId} {n : Nat} {v : Value} (ht : P.underlying t = some (.array n e)) (h : Value.okWide P w r base t v) : ∃ cs, v = .agg cs ∧ cs.size = P.cellsOf t := by
  simp only [Value.okWide, ht] at h
  obtain ⟨cs, h1, h2, _⟩ := h
  exact ⟨cs, h1, h2⟩
end Go.Proofs.YtcjpikjbjehjeaaOpen
