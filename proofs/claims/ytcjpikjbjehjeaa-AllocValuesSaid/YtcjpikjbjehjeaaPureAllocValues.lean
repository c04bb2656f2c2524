/- AllocValues: calls on a map change no other map. No condition beside the law's own. -/
import Derived.Test.YtcjpikjbjehjeaaAlo7AllocB
import Derived.Test.YtcjpikjbjehjeaaPAllocByAllocValues
import Derived.OpenShut
namespace Go.Proofs.Ytcjpikjbjehjeaa.PAllocB
open Go.RowKit Go.Proofs.YtcjpikjbjehjeaaW.PrintWords
set_option linter.unusedVariables false
set_option linter.unusedSimpArgs false
theorem values_ev (a0 : Int) (l : List S57) (kd n h : Int) (l2 : List S53) (h0 : 0 ≤ a0) (h1 : a0 ≤ 255) (hl : l.length ≤ 9223372036854775807) : Ev (fun k => tegulalaw35_AllocValues.f k a0 l kd n h l2) true := by
  refine Ev.bind awake_ev (Ev.ite (fun _ => ?_) (fun h => absurd rfl h))
  refine Ev.bind (few_eq l hl) ?_
  have hyes : Ev (fun k => tegulalaw35_AllocValues.j0 k a0 l true kd n h l2) true := Ev.succ (g := fun _ => some true) (fun k => by simp only [tegulalaw35_AllocValues.j0]; rw [if_pos trivial]) (Ev.now fun _ => rfl)
  refine Ev.ite (fun hf => ?_) (fun _ => hyes)
  by_cases h8 : (l2.length : Int) > 8
  · rw [decide_eq_true h8]
    exact hyes
  · rw [decide_eq_false h8]
    obtain ⟨m, rs, e, hm, hr⟩ := build_eq a0 l h0 h1 hf
    obtain ⟨rs1, m1, e1, hl1, hr1⟩ := step_eq m hm rs hr kd n h l2 (by omega)
    obtain ⟨rs2, m2, e2, hl2, hr2⟩ := step_eq m1 (by omega) rs1 hr1 kd n h l2 (by omega)
    refine Ev.shift ?_
    simp only [tegulalaw35_AllocValues.j0]
    refine Ev.ite (fun h => absurd h (by decide)) (fun _ => Ev.bind e (Ev.bind e1 (Ev.bind e2 (Ev.ite (fun _ => Ev.ite (fun _ => ?_) (fun h => absurd rfl h)) (fun h => absurd rfl h)))))
    exact Ev.bind (same_true hm hr) (Ev.ite (fun _ => Ev.bind (same_true (by omega) hr1) (Ev.now fun _ => rfl)) (fun h => absurd rfl h))
end Go.Proofs.Ytcjpikjbjehjeaa.PAllocB
namespace Go.Proofs.Ytcjpikjbjehjeaa.Pure
open Go.RowKit
theorem AllocValues : ∀ (a0 : Int) (l1 : (List PAllocB.S57)) (a2_0 : Int) (a2_1 : Int) (a2_2 : Int) (a2_3 : (List PAllocB.S53)), (Lit.int .u8 a0).wf = true → (l1.length ≤ maxLen ∧ ∀ yl1 ∈ l1, ((Lit.int .u8 yl1.f0).wf = true ∧ (Lit.int .u8 yl1.f1).wf = true ∧ (Lit.int .u8 yl1.f2).wf = true ∧ (yl1.f3.length ≤ maxLen ∧ ∀ yyl1_f3 ∈ yl1.f3, ((Lit.int .i64 yyl1_f3.f0).wf = true ∧ (Lit.int .i64 yyl1_f3.f1).wf = true ∧ (Lit.int .i64 yyl1_f3.f2).wf = true)))) → (Lit.int .u8 a2_0).wf = true → (Lit.int .u8 a2_1).wf = true → (Lit.int .u8 a2_2).wf = true → (a2_3.length ≤ maxLen ∧ ∀ ya2_3 ∈ a2_3, ((Lit.int .i64 ya2_3.f0).wf = true ∧ (Lit.int .i64 ya2_3.f1).wf = true ∧ (Lit.int .i64 ya2_3.f2).wf = true)) → ∃ k, PAllocB.tegulalaw35_AllocValues.f k a0 l1 a2_0 a2_1 a2_2 a2_3 = some true := fun a0 l a1 a2 a3 l2 h0 hl _ _ _ _ => (PAllocB.values_ev a0 l a1 a2 a3 l2 (bounds_u8 h0).1 (bounds_u8 h0).2 (Nat.le_trans hl.1 (by decide))).ex
end Go.Proofs.Ytcjpikjbjehjeaa.Pure
