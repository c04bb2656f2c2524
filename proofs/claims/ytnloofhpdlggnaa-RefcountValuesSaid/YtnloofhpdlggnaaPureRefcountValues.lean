/- RefcountValues: a call of Add or Drop changes no other counts. No condition beside the law's own. -/
import Derived.Test.YtnloofhpdlggnaaRef4Refcount
import Derived.Test.YtnloofhpdlggnaaPRefcountyRefcountValues
import Derived.OpenShut
namespace Go.Proofs.Ytnloofhpdlggnaa.PRefcount
open Go.RowKit Go.Proofs.YtnloofhpdlggnaaW.PrintWords
theorem add_some {B : Int} {c : List Int} (hI : Inv B c) (l : List S41) (hl : l.length ≤ 8) : Ev (fun k => refcount_Counts_Add.f k c l) (addO l c) := code_Add c l (by have := hI.1; omega) (by omega)
theorem addO_inv {B : Int} {c : List Int} (hI : Inv B c) (h0 : 0 ≤ B) (hB : B ≤ 1000) {l : List S41} (hl : l.length ≤ 8) : Inv (B + 8) (addO l c).1 := by
  unfold addO
  by_cases hp : permB (c.length : Int) l = true
  · rw [if_pos hp]
    exact (hI.add (by omega) (by omega) hp).mono (by omega)
  · rw [if_neg hp]
    exact ⟨by simp, fun t h1 h2 => absurd h2 (by simp; omega)⟩
theorem values_ev (a0 : Int) (l : List S57) (l2 : List S41) (h0 : 0 ≤ a0) (h1 : a0 ≤ 255) (hl : l.length ≤ 9223372036854775807) : Ev (fun k => tegulalaw34_RefcountValues.f k a0 l l2) true := by
  refine Ev.bind awake_ev (Ev.ite (fun _ => ?_) (fun h => absurd rfl h))
  refine Ev.bind (few_eq l hl) ?_
  refine Ev.ite (fun hf => ?_) (fun _ => Ev.succ (g := fun _ => some true) (fun k => by simp only [tegulalaw34_RefcountValues.j0]; rw [if_pos trivial]) (Ev.now fun _ => rfl))
  by_cases hl2 : (l2.length : Int) > 8
  · refine Ev.succ (g := fun _ => some true) (fun k => ?_) (Ev.now fun _ => rfl)
    simp only [tegulalaw34_RefcountValues.j0]
    rw [if_pos (decide_eq_true hl2)]
  · obtain ⟨c, e, hI, _⟩ := build_eq a0 l h0 h1 hf
    have hl8 : l2.length ≤ 8 := by omega
    have hx := addO_inv hI (by omega) (by omega) hl8
    obtain ⟨r1, d1, _⟩ := Drop_eq (addO l2 c).1 l2 hx (by omega) (by omega)
    obtain ⟨r2, d2, _⟩ := Drop_eq c l2 hI (by omega) (by omega)
    refine Ev.succ (g := fun k => (tegulalaw34_build.f k a0 l).bind fun bt435 => ((refcount_Counts_Add.f k bt435.1 l2).bind fun bt443 => ((refcount_Counts_Add.f k bt443.1 l2).bind fun bt448 => ((refcount_Counts_Drop.f k bt443.1 l2).bind fun bt452 => ((refcount_Counts_Drop.f k bt435.1 l2).bind fun bt459 => (if bt435.2.2 = true then ((tegulalaw34_same.f k bt435.1 bt435.2.1).bind fun t466 => (some t466)) else (some false))))))) (fun k => ?_) ?_
    · simp only [tegulalaw34_RefcountValues.j0]
      rw [if_neg (by rw [decide_eq_false hl2]; decide)]
    · refine Ev.bind e (Ev.bind (add_some hI l2 hl8) (Ev.bind (add_some hx l2 hl8) (Ev.bind d1 (Ev.bind d2 ?_))))
      exact Ev.ite (fun _ => Ev.bind (same_true hI) (Ev.now fun _ => rfl)) (fun h => absurd rfl h)
end Go.Proofs.Ytnloofhpdlggnaa.PRefcount
namespace Go.Proofs.Ytnloofhpdlggnaa.Pure
open Go.RowKit
theorem RefcountValues : ∀ (a0 : Int) (l1 : (List PRefcount.S57)) (l2 : (List PRefcount.S41)), (Lit.int .u8 a0).wf = true → (l1.length ≤ maxLen ∧ ∀ yl1 ∈ l1, (True ∧ (yl1.f1.length ≤ maxLen ∧ ∀ yyl1_f1 ∈ yl1.f1, ((Lit.int .i64 yyl1_f1.f0).wf = true ∧ (Lit.int .i64 yyl1_f1.f1).wf = true ∧ (Lit.int .i64 yyl1_f1.f2).wf = true)))) → (l2.length ≤ maxLen ∧ ∀ yl2 ∈ l2, ((Lit.int .i64 yl2.f0).wf = true ∧ (Lit.int .i64 yl2.f1).wf = true ∧ (Lit.int .i64 yl2.f2).wf = true)) → ∃ k, PRefcount.tegulalaw34_RefcountValues.f k a0 l1 l2 = some true := fun a0 l l2 h0 hl _ => (PRefcount.values_ev a0 l l2 (bounds_u8 h0).1 (bounds_u8 h0).2 (Nat.le_trans hl.1 (by decide))).ex
end Go.Proofs.Ytnloofhpdlggnaa.Pure
