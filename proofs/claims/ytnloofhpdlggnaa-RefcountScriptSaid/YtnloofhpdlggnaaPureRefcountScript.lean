/- RefcountScript: up to 20 calls of Add and Drop with up to 8 extents each, on up to 99 slots, answer as the document says and leave the counts that it says. No condition beside the law's own. -/
import Derived.Test.YtnloofhpdlggnaaRef4Refcount
import Derived.Test.YtnloofhpdlggnaaPRefcountyRefcountScript
import Derived.OpenShut
namespace Go.Proofs.Ytnloofhpdlggnaa.PRefcount
open Go.RowKit Go.Proofs.YtnloofhpdlggnaaW.PrintWords
theorem script_ev (a0 : Int) (l : List S57) (h0 : 0 ≤ a0) (h1 : a0 ≤ 255) (hl : l.length ≤ 9223372036854775807) : Ev (fun k => tegulalaw34_RefcountScript.f k a0 l) true := by
  refine Ev.bind awake_ev (Ev.ite (fun _ => ?_) (fun h => absurd rfl h))
  refine Ev.bind (few_eq l hl) ?_
  refine Ev.ite (fun hf => ?_) (fun _ => Ev.now fun _ => rfl)
  obtain ⟨c, e, _, _⟩ := build_eq a0 l h0 h1 hf
  exact Ev.bind e (Ev.now fun _ => rfl)
end Go.Proofs.Ytnloofhpdlggnaa.PRefcount
namespace Go.Proofs.Ytnloofhpdlggnaa.Pure
open Go.RowKit
theorem RefcountScript : ∀ (a0 : Int) (l1 : (List PRefcount.S57)), (Lit.int .u8 a0).wf = true → (l1.length ≤ maxLen ∧ ∀ yl1 ∈ l1, (True ∧ (yl1.f1.length ≤ maxLen ∧ ∀ yyl1_f1 ∈ yl1.f1, ((Lit.int .i64 yyl1_f1.f0).wf = true ∧ (Lit.int .i64 yyl1_f1.f1).wf = true ∧ (Lit.int .i64 yyl1_f1.f2).wf = true)))) → ∃ k, PRefcount.tegulalaw34_RefcountScript.f k a0 l1 = some true := fun a0 l h0 hl => (PRefcount.script_ev a0 l (bounds_u8 h0).1 (bounds_u8 h0).2 (Nat.le_trans hl.1 (by decide))).ex
end Go.Proofs.Ytnloofhpdlggnaa.Pure
