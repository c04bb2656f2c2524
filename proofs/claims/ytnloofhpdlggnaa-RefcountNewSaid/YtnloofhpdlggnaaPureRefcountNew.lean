/- RefcountNew: New answers ErrArg exactly for numbers that are not from 0 to 65536; the zero value has no slots. No condition beside the law's own. -/
import Derived.Test.YtnloofhpdlggnaaRef5Refcount
import Derived.Test.YtnloofhpdlggnaaPRefcountyRefcountNew
import Derived.OpenShut
namespace Go.Proofs.Ytnloofhpdlggnaa.PRefcount
open Go.RowKit Go.Proofs.YtnloofhpdlggnaaW.PrintWords
theorem zero_none {c : List Int} {R : List S41} (h : IsRuns (fun t => 0 ≤ t ∧ t < c.length ∧ rd c t = 0) R) (hc : c.length = 0) : R = [] :=
  h.uniq (Q := fun _ => False) (R' := []) ⟨trivial, by simp, fun t => ⟨fun h => cov_nil t h, False.elim⟩⟩ fun t => ⟨fun h => by omega, False.elim⟩
theorem rd_zeros (n : Nat) {t : Int} (h0 : 0 ≤ t) (h1 : t < n) : rd (List.replicate n 0) t = 0 := by
  exact List.eq_of_mem_replicate (mem_rd.2 ⟨t, h0, by rw [List.length_replicate]; exact h1, rfl⟩)
theorem zero_all (n : Nat) (hn : 1 ≤ n) (hm : n ≤ 65536) {R : List S41} (h : IsRuns (fun t => 0 ≤ t ∧ t < (List.replicate n (0 : Int)).length ∧ rd (List.replicate n 0) t = 0) R) : R = [⟨0, (n : Int), 0⟩] := by
  refine h.uniq (Q := fun t => 0 ≤ t ∧ t < n) (R' := [⟨0, (n : Int), 0⟩]) ⟨⟨rfl, by show (-1 : Int) < 0; omega, by show (1 : Int) ≤ n; omega, trivial⟩, ?_, fun t => ?_⟩ fun t => ?_
  · intro x hx
    rw [List.mem_singleton.1 hx]
    unfold OkS
    simp only
    omega
  · rw [cov_cons]
    simp only
    constructor
    · rintro (h | h)
      · omega
      · exact absurd h (cov_nil _)
    · intro h
      exact .inl ⟨h.1, by omega⟩
  · rw [List.length_replicate]
    constructor
    · exact fun h => ⟨h.1, h.2.1⟩
    · exact fun h => ⟨h.1, h.2, rd_zeros n h.1 h.2⟩
theorem new_ev (a0 : Int) : Ev (fun k => tegulalaw34_RefcountNew.f k a0) true := by
  obtain ⟨R0, e0, hR0, _⟩ := code_Zero [] (by simp)
  have hR : R0 = [] := zero_none hR0 rfl
  subst hR
  have ha : addO [(⟨0, 1, 0⟩ : S41)] [] = ([], 2) := by
    unfold addO
    rw [if_neg (by decide)]
  have hadd := code_Add [] [(⟨0, 1, 0⟩ : S41)] (by simp) (by simp)
  rw [ha] at hadd
  refine Ev.bind awake_ev (Ev.ite (fun _ => ?_) (fun h => absurd rfl h))
  have main : ∀ (bt : List Int × Int), Ev (fun k => tegulalaw34_RefcountNew.j0 k a0 bt.2 false bt.1) true → Ev (fun k => ((tegulalaw34_run.f 0 1).bind fun t474 => ((refcount_Counts_Add.f k ([] : List Int) t474).bind fun bt477 => ((refcount_Counts_Slots.f ([] : List Int)).bind fun t482 => (if t482 = 0 then ((refcount_Counts_Used.f ([] : List Int)).bind fun t483 => (if t483 = 0 then ((refcount_Counts_Total.f ([] : List Int)).bind fun t484 => (if t484 = 0 then ((refcount_Counts_Zero.f k ([] : List Int)).bind fun t485 => (if (t485.length : Int) = 0 then (tegulalaw34_RefcountNew.j0 k a0 bt.2 (bt477.2 != 2) bt.1) else (tegulalaw34_RefcountNew.j0 k a0 bt.2 true bt.1))) else (tegulalaw34_RefcountNew.j0 k a0 bt.2 true bt.1))) else (tegulalaw34_RefcountNew.j0 k a0 bt.2 true bt.1))) else (tegulalaw34_RefcountNew.j0 k a0 bt.2 true bt.1)))))) true := fun bt h => by
    refine Ev.bind (Ev.now fun _ => rfl) ?_
    refine Ev.bind hadd ?_
    refine Ev.bind (Ev.now fun _ => rfl) ?_
    refine Ev.ite (fun _ => ?_) (fun h => absurd rfl h)
    refine Ev.bind (Ev.now fun _ => code_Used [] (by simp)) ?_
    refine Ev.ite (fun _ => ?_) (fun h => absurd rfl h)
    refine Ev.bind (Ev.now fun _ => code_Total [] (by simp)) ?_
    refine Ev.ite (fun _ => ?_) (fun h => absurd rfl h)
    refine Ev.bind e0 ?_
    exact Ev.ite (fun _ => h) (fun h => absurd rfl h)
  by_cases hbad : a0 < 0 ∨ a0 > 65536
  · have hn : refcount_New.f a0 = some ([], 1) := by
      unfold refcount_New.f
      by_cases h : a0 < 0
      · rw [if_pos h]
      · rw [if_neg h, if_pos (by omega)]
    refine Ev.bind (Ev.now fun _ => hn) (main ([], 1) ?_)
    refine Ev.succ (g := fun k => tegulalaw34_RefcountNew.j1 k a0 1 true []) (fun k => ?_) (Ev.succ (g := fun _ => some true) (fun k => ?_) (Ev.now fun _ => rfl))
    · simp only [tegulalaw34_RefcountNew.j0]
      rw [if_neg (by decide)]
      by_cases h : a0 < 0
      · rw [if_pos h]
      · rw [if_neg h, decide_eq_true (by omega)]
    · simp only [tegulalaw34_RefcountNew.j1]
      rw [if_pos trivial]
      rfl
  · have h0 : 0 ≤ a0 := by omega
    have h1 : a0 ≤ 65536 := by omega
    have hI := inv_zero a0.toNat (by omega)
    have hlen : (List.replicate a0.toNat (0 : Int)).length = a0.toNat := List.length_replicate
    obtain ⟨R, e, hR, hRl⟩ := code_Zero (List.replicate a0.toNat 0) (by omega)
    have hu : numP (fun t => !decide (rd (List.replicate a0.toNat 0) t = 0)) 0 (List.replicate a0.toNat (0 : Int)).length = 0 := numP_false fun t t0 t1 => by
      rw [decide_eq_true (rd_zeros a0.toNat t0 (by omega))]
      rfl
    refine Ev.bind (Ev.now fun _ => new_code a0 h0 h1) (main _ ?_)
    refine Ev.succ (g := fun k => tegulalaw34_RefcountNew.j1 k a0 0 false (List.replicate a0.toNat 0)) (fun k => ?_) ?_
    · simp only [tegulalaw34_RefcountNew.j0]
      rw [if_neg (by decide), if_neg (by omega), decide_eq_false (by omega)]
    · refine Ev.succ (g := fun k => (refcount_Counts_Zero.f k (List.replicate a0.toNat 0)).bind fun t488 => if a0 = 0 then (if (t488.length : Int) = 0 then some true else some false) else (tegularef32_Same.f k t488 [⟨0, a0, 0⟩]).bind fun t500 => some t500) (fun k => ?_) (Ev.bind e (Ev.ite (fun hz => ?_) (fun hz => ?_)))
      · simp only [tegulalaw34_RefcountNew.j1]
        rw [if_neg (by decide)]
        congr 1
        funext t488
        rw [used_eq hI, hu]
        simp only [refcount_Counts_Slots.f, Option.bind_some, tegulalaw34_run.f]
        rw [if_pos trivial, if_pos (by omega), if_pos trivial]
        by_cases hz : a0 = 0
        · rw [if_pos hz, if_pos hz]
          by_cases hq : (t488.length : Int) = 0
          · rw [if_pos hq, if_pos hq]
          · rw [if_neg hq, if_neg hq, if_neg (by omega)]
        · rw [if_neg hz, if_neg hz, if_pos (by omega)]
      · have hR : R = [] := zero_none hR (by omega)
        rw [hR]
        exact Ev.ite (fun _ => Ev.now fun _ => rfl) (fun h => absurd rfl h)
      · have hR : R = [⟨0, (a0.toNat : Int), 0⟩] := zero_all a0.toNat (by omega) (by omega) hR
        have e1 : ((a0.toNat : Nat) : Int) = a0 := by omega
        rw [hR, e1]
        exact Ev.bind (same_refl _ (by simp)) (Ev.now fun _ => rfl)
end Go.Proofs.Ytnloofhpdlggnaa.PRefcount
namespace Go.Proofs.Ytnloofhpdlggnaa.Pure
open Go.RowKit
theorem RefcountNew : ∀ (a0 : Int), (Lit.int .i64 a0).wf = true → ∃ k, PRefcount.tegulalaw34_RefcountNew.f k a0 = some true := fun a0 _ => (PRefcount.new_ev a0).ex
end Go.Proofs.Ytnloofhpdlggnaa.Pure
