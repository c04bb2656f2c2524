/- ExtentCut: Cut returns the reference's lists and error for every list of up to 40 extents and every range. No condition beside the law's own. -/
import Derived.Test.YtcgihjpnemnkeaaExt3ExtentCut
namespace Go.Proofs.Ytcgihjpnemnkeaa.Pure
open Go.RowKit Go.Proofs.YtcgihjpnemnkeaaW.PrintWords
open PExtentCut in
theorem ExtentCut : ∀ (l0 : (List PExtentCut.S33)) (a1 : Int) (a2 : Int), (l0.length ≤ maxLen ∧ ∀ yl0 ∈ l0, ((Lit.int .i64 yl0.f0).wf = true ∧ (Lit.int .i64 yl0.f1).wf = true ∧ (Lit.int .i64 yl0.f2).wf = true)) → (Lit.int .i64 a1).wf = true → (Lit.int .i64 a2).wf = true → ∃ k, PExtentCut.tegulalaw32_ExtentCut.f k l0 a1 a2 = some true := by
  intro l a n _ _ _
  refine ⟨200, ?_⟩
  unfold tegulalaw32_ExtentCut.f
  rw [awake_eq 200 (by omega)]
  simp only [Option.bind_some, if_true]
  by_cases hl : (l.length : Int) > 40
  · rw [if_pos hl]
  · rw [if_neg hl]
    have h := cutL_len l a n
    rw [copied_eq l (by omega), cut_eq l a n 200 (by omega) (by omega), rcut_eq l a n 200 (by omega) (by omega)]
    simp only [Option.bind_some, if_true]
    rw [same_eq _ _ 200 (by omega) (by omega), same_eq _ _ 200 (by omega) (by omega), same_eq _ _ 200 (by omega) (by omega)]
    simp
end Go.Proofs.Ytcgihjpnemnkeaa.Pure
