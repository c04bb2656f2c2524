/- AllocNew: New answers ErrArg exactly for numbers that are not from 0 to 65536; the zero value has no slots. No condition beside the law's own. -/
import Derived.Test.YtcjpikjbjehjeaaAll1Alloc
import Derived.Test.YtcjpikjbjehjeaaPAllocyAllocNew
import Derived.OpenShut
namespace Go.Proofs.Ytcjpikjbjehjeaa.PAlloc
open Go.RowKit Go.Proofs.YtcjpikjbjehjeaaW.PrintWords
theorem anew_ev (a0 : Int) : Ev (fun k => tegulalaw35_AllocNew.f k a0) true := by
  have hf := free_one1 0 0 0 (by omega) (by omega)
  have hl := largest_one1 0 0 0 (by omega)
  have e1 : one1 0 0 = [] := rfl
  rw [e1] at hf hl
  have ht1 := take_full 0 1 0 [] hf (by omega) (by omega) (by omega) (by omega)
  have ht2 := take_zero 0 0 [] hf (by omega) (by omega) (by omega)
  have hr : alloc_Map_Runs.f 0 ([] : List S53) = some [] := by kernel_rfl
  refine Ev.bind awake_ev (Ev.ite (fun _ => ?_) (fun h => absurd rfl h))
  have main : ∀ bt : Int × List S53 × Int, Ev (fun k => tegulalaw35_AllocNew.j0 k a0 bt.2.2 false bt.1 bt.2.1) true → Ev (fun k => ((alloc_Map_Take.f k 0 ([] : List S53) 1 0).bind fun bt375 => ((alloc_Map_Take.f k 0 ([] : List S53) 0 0).bind fun bt384 => ((alloc_Map_Slots.f 0 ([] : List S53)).bind fun t393 => (if t393 = 0 then ((alloc_Map_Free.f k 0 ([] : List S53)).bind fun t394 => (if t394 = 0 then ((alloc_Map_Largest.f k 0 ([] : List S53)).bind fun t395 => (if t395 = 0 then ((alloc_Map_Runs.f 0 ([] : List S53)).bind fun t396 => (if (t396.length : Int) = 0 then ((alloc_Map_Is.f 0 ([] : List S53) 0).bind fun t399 => (if t399 = true then (tegulalaw35_AllocNew.j0 k a0 bt.2.2 true bt.1 bt.2.1) else (if bt375.2.2.2 = 11 then (tegulalaw35_AllocNew.j0 k a0 bt.2.2 (bt384.2.2.2 != 0) bt.1 bt.2.1) else (tegulalaw35_AllocNew.j0 k a0 bt.2.2 true bt.1 bt.2.1)))) else (tegulalaw35_AllocNew.j0 k a0 bt.2.2 true bt.1 bt.2.1))) else (tegulalaw35_AllocNew.j0 k a0 bt.2.2 true bt.1 bt.2.1))) else (tegulalaw35_AllocNew.j0 k a0 bt.2.2 true bt.1 bt.2.1))) else (tegulalaw35_AllocNew.j0 k a0 bt.2.2 true bt.1 bt.2.1)))))) true := fun bt h => by
    refine Ev.bind ht1 (Ev.bind ht2 (Ev.bind (Ev.now fun _ => rfl) (Ev.ite (fun _ => ?_) (fun h => absurd rfl h))))
    refine Ev.bind hf (Ev.ite (fun _ => ?_) (fun h => absurd rfl h))
    refine Ev.bind hl (Ev.ite (fun _ => ?_) (fun h => absurd rfl h))
    refine Ev.bind (Ev.now fun _ => hr) (Ev.ite (fun _ => ?_) (fun h => absurd rfl h))
    refine Ev.bind (Ev.now (r := false) fun _ => rfl) (Ev.ite (fun h => absurd h (by decide)) (fun _ => ?_))
    exact Ev.ite (fun _ => h) (fun h => absurd rfl h)
  by_cases hbad : a0 < 0 ∨ a0 > 65536
  · refine Ev.bind (new_bad hbad) (main (0, [], 1) ?_)
    refine Ev.succ (g := fun k => tegulalaw35_AllocNew.j1 k a0 1 true 0 []) (fun k => ?_) (Ev.succ (g := fun _ => some true) (fun k => ?_) (Ev.now fun _ => rfl))
    · simp only [tegulalaw35_AllocNew.j0]
      rw [if_neg (by decide)]
      by_cases h : a0 < 0
      · rw [if_pos h]
      · rw [if_neg h, decide_eq_true (by omega)]
    · simp only [tegulalaw35_AllocNew.j1]
      rw [if_pos trivial]
      rfl
  · have h0 : 0 ≤ a0 := by omega
    have h1 : a0 ≤ 65536 := by omega
    refine Ev.bind (new_ok h0 h1) (main (a0, one1 0 a0, 0) ?_)
    refine Ev.succ (g := fun k => tegulalaw35_AllocNew.j1 k a0 0 false a0 (one1 0 a0)) (fun k => ?_) (Ev.succ (g := fun k => (alloc_Map_Free.f k a0 (one1 0 a0)).bind fun t401 => (if t401 = a0 then ((alloc_Map_Largest.f k a0 (one1 0 a0)).bind fun t402 => (some (t402 == a0))) else (some false))) (fun k => ?_) ?_)
    · simp only [tegulalaw35_AllocNew.j0]
      rw [if_neg (by decide), if_neg (by omega), decide_eq_false (by omega)]
    · simp only [tegulalaw35_AllocNew.j1, alloc_Map_Slots.f, Option.bind_some]
      rw [if_neg (by decide), if_pos trivial, if_pos trivial]
    · refine Ev.bind (free_one1 a0 a0 0 h0 (by omega)) (Ev.ite (fun _ => ?_) (fun h => absurd rfl h))
      exact Ev.bind (largest_one1 a0 a0 0 h0) (Ev.now fun _ => by simp)
end Go.Proofs.Ytcjpikjbjehjeaa.PAlloc
namespace Go.Proofs.Ytcjpikjbjehjeaa.Pure
open Go.RowKit
theorem AllocNew : ∀ (a0 : Int), (Lit.int .i64 a0).wf = true → ∃ k, PAlloc.tegulalaw35_AllocNew.f k a0 = some true := fun a0 _ => (PAlloc.anew_ev a0).ex
end Go.Proofs.Ytcjpikjbjehjeaa.Pure
