/- AllocTake: Take answers as the document says for every number and hint, after up to 25 calls; it fails for lack of space exactly if fewer slots are free. No condition beside the law's own. -/
import Derived.Test.YtcjpikjbjehjeaaAlo7AllocB
import Derived.Test.YtcjpikjbjehjeaaPAllocByAllocTake
import Derived.OpenShut
namespace Go.Proofs.Ytcjpikjbjehjeaa.PAllocB
open Go.RowKit Go.Proofs.YtcjpikjbjehjeaaW.PrintWords
set_option linter.unusedVariables false
set_option linter.unusedSimpArgs false
theorem take_ev (a0 : Int) (l : List S57) (n h : Int) (h0 : 0 ≤ a0) (h1 : a0 ≤ 255) (hl : l.length ≤ 9223372036854775807) : Ev (fun k => tegulalaw35_AllocTake.f k a0 l n h) true := by
  refine Ev.bind awake_ev (Ev.ite (fun _ => ?_) (fun h => absurd rfl h))
  refine Ev.bind (few_eq l hl) ?_
  refine Ev.ite (fun hf => ?_) (fun _ => Ev.now fun _ => rfl)
  obtain ⟨m, rs, e, hm, hr⟩ := build_eq a0 l h0 h1 hf
  obtain ⟨l1, M', rs', m', er, e1, e2, hl1, hT⟩ := take_eq m hm rs hr n h
  have hfd : Ev (fun k => tegularef35_Map_Free.f k m) (numF m) := rfree_eq m (by omega)
  refine Ev.bind e (Ev.bind e1 (Ev.bind e2 (Ev.ite (fun _ => Ev.ite (fun _ => ?_) (fun h => absurd rfl h)) (fun h => absurd rfl h))))
  refine Ev.bind (same_refl l1 (by omega)) (Ev.shift ?_)
  simp only [tegulalaw35_AllocTake.j0]
  refine Ev.ite (fun h => absurd h (by decide)) (fun _ => ?_)
  rcases hT with ⟨he, _⟩ | ⟨he, hgt, _⟩ | ⟨he, _, hle, _, _, h6, h7, h8, _⟩
  · exact Ev.ite (fun h => by omega) (fun _ => Ev.ite (fun _ => Ev.now fun _ => rfl) (fun h => absurd he h))
  · refine Ev.ite (fun h => by omega) (fun _ => Ev.ite (fun h => by omega) (fun _ => Ev.bind hfd (Ev.now fun _ => ?_)))
    rw [decide_eq_true hgt]
  · have hs := same_true (by omega) h8
    rw [← h6] at hs
    refine Ev.ite (fun _ => Ev.bind hs (Ev.ite (fun _ => Ev.bind hfd (Ev.now fun _ => ?_)) (fun h => absurd rfl h))) (fun h => absurd he h)
    rw [decide_eq_true hle]
end Go.Proofs.Ytcjpikjbjehjeaa.PAllocB
namespace Go.Proofs.Ytcjpikjbjehjeaa.Pure
open Go.RowKit
theorem AllocTake : ∀ (a0 : Int) (l1 : (List PAllocB.S57)) (a2_0 : Int) (a2_1 : Int), (Lit.int .u8 a0).wf = true → (l1.length ≤ maxLen ∧ ∀ yl1 ∈ l1, ((Lit.int .u8 yl1.f0).wf = true ∧ (Lit.int .u8 yl1.f1).wf = true ∧ (Lit.int .u8 yl1.f2).wf = true ∧ (yl1.f3.length ≤ maxLen ∧ ∀ yyl1_f3 ∈ yl1.f3, ((Lit.int .i64 yyl1_f3.f0).wf = true ∧ (Lit.int .i64 yyl1_f3.f1).wf = true ∧ (Lit.int .i64 yyl1_f3.f2).wf = true)))) → (Lit.int .i64 a2_0).wf = true → (Lit.int .i64 a2_1).wf = true → ∃ k, PAllocB.tegulalaw35_AllocTake.f k a0 l1 a2_0 a2_1 = some true := fun a0 l a1 a2 h0 hl _ _ => (PAllocB.take_ev a0 l a1 a2 (bounds_u8 h0).1 (bounds_u8 h0).2 (Nat.le_trans hl.1 (by decide))).ex
end Go.Proofs.Ytcjpikjbjehjeaa.Pure
