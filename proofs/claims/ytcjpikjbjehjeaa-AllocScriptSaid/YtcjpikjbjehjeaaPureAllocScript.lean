/- AllocScript: up to 25 calls of Take, Mark and Give, on up to 99 slots, answer as the document says and leave the map that it says. No condition beside the law's own. -/
import Derived.Test.YtcjpikjbjehjeaaAlo7AllocB
import Derived.Test.YtcjpikjbjehjeaaPAllocByAllocScript
import Derived.OpenShut
namespace Go.Proofs.Ytcjpikjbjehjeaa.PAllocB
open Go.RowKit Go.Proofs.YtcjpikjbjehjeaaW.PrintWords
set_option linter.unusedVariables false
set_option linter.unusedSimpArgs false
theorem script_ev (a0 : Int) (l : List S57) (h0 : 0 ≤ a0) (h1 : a0 ≤ 255) (hl : l.length ≤ 9223372036854775807) : Ev (fun k => tegulalaw35_AllocScript.f k a0 l) true := by
  refine Ev.bind awake_ev (Ev.ite (fun _ => ?_) (fun h => absurd rfl h))
  refine Ev.bind (few_eq l hl) ?_
  refine Ev.ite (fun hf => ?_) (fun _ => Ev.now fun _ => rfl)
  obtain ⟨m, rs, e, _, _⟩ := build_eq a0 l h0 h1 hf
  exact Ev.bind e (Ev.now fun _ => rfl)
end Go.Proofs.Ytcjpikjbjehjeaa.PAllocB
namespace Go.Proofs.Ytcjpikjbjehjeaa.Pure
open Go.RowKit
theorem AllocScript : ∀ (a0 : Int) (l1 : (List PAllocB.S57)), (Lit.int .u8 a0).wf = true → (l1.length ≤ maxLen ∧ ∀ yl1 ∈ l1, ((Lit.int .u8 yl1.f0).wf = true ∧ (Lit.int .u8 yl1.f1).wf = true ∧ (Lit.int .u8 yl1.f2).wf = true ∧ (yl1.f3.length ≤ maxLen ∧ ∀ yyl1_f3 ∈ yl1.f3, ((Lit.int .i64 yyl1_f3.f0).wf = true ∧ (Lit.int .i64 yyl1_f3.f1).wf = true ∧ (Lit.int .i64 yyl1_f3.f2).wf = true)))) → ∃ k, PAllocB.tegulalaw35_AllocScript.f k a0 l1 = some true := fun a0 l h0 hl => (PAllocB.script_ev a0 l (bounds_u8 h0).1 (bounds_u8 h0).2 (Nat.le_trans hl.1 (by decide))).ex
end Go.Proofs.Ytcjpikjbjehjeaa.Pure
