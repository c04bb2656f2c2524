/- ExtentRuns: Runs answers the runs that the document says, for every list of up to 40 extents, valid or not, in any order. No condition beside the law's own. -/
import Derived.Test.YtcgihjpnemnkeaaRunsTExtentRuns
import Derived.OpenShut
namespace Go.Proofs.Ytcgihjpnemnkeaa.PExtentRuns
open Go.RowKit Go.Proofs.YtcgihjpnemnkeaaW.PrintWords
theorem rev_loop {r : Bool} (l R : List S33) (hl : l.length ≤ 1000000) : ∀ (n : Nat) (acc : List S33), n ≤ l.length → acc.length + n ≤ 1000000 →
    Ev (fun k => tegulalaw32_ExtentRuns.l0 k l R (acc ++ (l.take n).reverse) (-1)) r → Ev (fun k => tegulalaw32_ExtentRuns.l0 k l R acc ((n : Int) - 1)) r
  | 0, acc, _, _, h => by
    rw [List.take_zero, List.reverse_nil, List.append_nil] at h
    exact h
  | n + 1, acc, hn, ha, h => by
    have hrd : rd_T33 l (n : Int) = l[n] := by unfold rd_T33; rw [List.getD_eq_getElem?_getD, show (n : Int).toNat = n from by omega, List.getElem?_eq_getElem (by omega)]; rfl
    rw [List.take_succ_eq_append_getElem (by omega), List.reverse_append, List.reverse_singleton, ← List.append_assoc] at h
    refine Ev.succ (fun k => ?_) (rev_loop l R hl n (acc ++ [l[n]]) (by omega) (by simp; omega) h)
    simp only [tegulalaw32_ExtentRuns.l0]
    rw [show (((n + 1 : Nat) : Int) - 1) = (n : Int) by omega, if_pos (by omega), if_pos (by omega), if_pos (by omega), if_pos (by omega), hrd, w64 (n := (n : Int) - 1) (by omega) (by omega)]
theorem awake_ev : Ev (fun k => tegulalaw32_awake.f k) true := Ev.of_mono (fun k => tegulalaw32_awake.mono k) (k0 := 60) (by kernel_rfl)
theorem copied_ev (l : List S33) (hl : l.length ≤ 1000000) : tegulalaw32_copied.f l = some l := by
  unfold tegulalaw32_copied.f
  simp only [Option.bind_some, List.nil_append, List.length_nil]
  rw [if_pos (by omega)]
theorem cov_filter_one {l m : List S33} (h : l.Perm m) (t : Int) : Cov (l.filter oneB) t ↔ Cov (m.filter oneB) t := cov_perm (h.filter oneB) t
theorem runs_ev (l : List S33) : Ev (fun k => tegulalaw32_ExtentRuns.f k l) true := by
  refine Ev.bind awake_ev (Ev.ite (fun _ => ?_) (fun h => absurd rfl h))
  refine Ev.ite (fun _ => Ev.now fun _ => rfl) (fun hl => ?_)
  have hl40 : l.length ≤ 40 := by omega
  obtain ⟨R, e, hR, hRl⟩ := code_runs l (by omega)
  obtain ⟨R2, e2, hR2, hR2l⟩ := code_runs l.reverse (by rw [List.length_reverse]; omega)
  obtain ⟨R3, e3, hR3, hR3l⟩ := code_runs R (by omega)
  obtain ⟨R4, e4, r1, r2, r3⟩ := ref_runs l (by omega)
  have h2 : R2 = R := hR2.uniq hR fun t => cov_filter_one (List.reverse_perm l) t
  have h3 : R3 = R := hR3.uniq hR fun t => by rw [List.filter_eq_self.2 (runs_one hR.1 hR.2.1)]; exact hR.2.2 t
  have h4 : R4 = R := IsRuns.uniq ⟨r1, r2, r3⟩ hR fun t => Iff.rfl
  rw [h2] at e2
  rw [h3] at e3
  rw [h4] at e4
  have hs := same_refl R (by omega)
  refine Ev.bind (Ev.now fun _ => copied_ev l (by omega)) ?_
  refine Ev.bind e (Ev.bind e4 (Ev.bind hs (Ev.ite (fun _ => ?_) (fun h => absurd rfl h))))
  refine Ev.same (fun k => by rw [w64 (n := (l.length : Int) - 1) (by omega) (by omega)]) (rev_loop l R (by omega) l.length [] (Nat.le_refl _) (by simp; omega) ?_)
  rw [List.take_length, List.nil_append]
  refine Ev.succ (g := fun k => (extent_Runs.f k l.reverse).bind fun t252 => ((tegularef32_Same.f k R t252).bind fun t255 => (if t255 = true then ((extent_Runs.f k R).bind fun t256 => ((tegularef32_Same.f k R t256).bind fun t259 => (some t259))) else (some false)))) (fun k => ?_) ?_
  · simp only [tegulalaw32_ExtentRuns.l0]
    rw [if_neg (by omega)]
  · exact Ev.bind e2 (Ev.bind hs (Ev.ite (fun _ => Ev.bind e3 (Ev.bind hs (Ev.now fun _ => rfl))) (fun h => absurd rfl h)))
end Go.Proofs.Ytcgihjpnemnkeaa.PExtentRuns
namespace Go.Proofs.Ytcgihjpnemnkeaa.Pure
open Go.RowKit
theorem ExtentRuns : ∀ (l0 : (List PExtentRuns.S33)), (l0.length ≤ maxLen ∧ ∀ yl0 ∈ l0, ((Lit.int .i64 yl0.f0).wf = true ∧ (Lit.int .i64 yl0.f1).wf = true ∧ (Lit.int .i64 yl0.f2).wf = true)) → ∃ k, PExtentRuns.tegulalaw32_ExtentRuns.f k l0 = some true := fun l _ => (PExtentRuns.runs_ev l).ex
end Go.Proofs.Ytcgihjpnemnkeaa.Pure
