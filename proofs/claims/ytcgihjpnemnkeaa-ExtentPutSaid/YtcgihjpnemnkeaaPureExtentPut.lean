/- ExtentPut: Put returns the reference's lists and error for every list of up to 40 extents and every extent, and changes no argument. No condition beside the law's own. -/
import Derived.Test.YtcgihjpnemnkeaaExt5ExtentPut
namespace Go.Proofs.Ytcgihjpnemnkeaa.Pure
open Go.RowKit Go.Proofs.YtcgihjpnemnkeaaW.PrintWords
open PExtentPut in
theorem ExtentPut : ∀ (l0 : (List PExtentPut.S33)) (a1_0 : Int) (a1_1 : Int) (a1_2 : Int), (l0.length ≤ maxLen ∧ ∀ yl0 ∈ l0, ((Lit.int .i64 yl0.f0).wf = true ∧ (Lit.int .i64 yl0.f1).wf = true ∧ (Lit.int .i64 yl0.f2).wf = true)) → (Lit.int .i64 a1_0).wf = true → (Lit.int .i64 a1_1).wf = true → (Lit.int .i64 a1_2).wf = true → ∃ k, PExtentPut.tegulalaw32_ExtentPut.f k l0 a1_0 a1_1 a1_2 = some true := by
  intro l a b c _ _ _ _
  refine ⟨200, ?_⟩
  unfold tegulalaw32_ExtentPut.f
  rw [awake_eq 200 (by omega)]
  simp only [Option.bind_some, if_true]
  by_cases hl : (l.length : Int) > 40
  · rw [if_pos hl]
  · rw [if_neg hl]
    have h := putL_len l ⟨a, b, c⟩
    have e1 := put_eq l ⟨a, b, c⟩ 200 (by omega) (by omega)
    have e2 := rput_eq l ⟨a, b, c⟩ 200 (by omega) (by omega)
    simp only at e1 e2
    rw [copied_eq l (by omega), e1, e2]
    simp only [Option.bind_some, if_true]
    rw [same_eq _ _ 200 (by omega) (by omega), same_eq _ _ 200 (by omega) (by omega), same_eq _ _ 200 (by omega) (by omega)]
    simp
end Go.Proofs.Ytcgihjpnemnkeaa.Pure
