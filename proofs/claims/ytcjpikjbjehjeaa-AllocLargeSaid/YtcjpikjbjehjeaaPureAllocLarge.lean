/- AllocLarge: on the greatest map, runs that are taken one after another with the end of the last one as the hint follow each other as long as there is room behind them. No condition beside the law's own. -/
import Derived.Test.YtcjpikjbjehjeaaAll2Alloc
import Derived.Test.YtcjpikjbjehjeaaPAllocyAllocLarge
import Derived.OpenShut
namespace Go.Proofs.Ytcjpikjbjehjeaa.PAlloc
open Go.RowKit Go.Proofs.YtcjpikjbjehjeaaW.PrintWords
theorem large_loop : ∀ (rest pre : List Int) (en : Int), (pre ++ rest).length ≤ 1000 → (∀ x ∈ rest, 0 ≤ x ∧ x ≤ 65535) → 0 ≤ en → en ≤ 65536 → Ev (fun k => tegulalaw35_AllocLarge.l0 k (pre ++ rest) en (pre.length : Int) 65536 (one1 en (65536 - en))) true
  | [], pre, en, _, _, h0, h1 => by
    refine Ev.succ (g := fun k => (alloc_Map_Free.f k 65536 (one1 en (65536 - en))).bind fun t410 => (if t410 = (wrap64 (65536 - en)) then ((alloc_Map_Largest.f k 65536 (one1 en (65536 - en))).bind fun t411 => (some (t411 == (wrap64 (65536 - en))))) else (some false))) (fun k => ?_) ?_
    · simp only [tegulalaw35_AllocLarge.l0, List.append_nil]
      rw [if_neg (by omega)]
    · have hw : wrap64 (65536 - en) = 65536 - en := w64 (by omega) (by omega)
      rw [hw]
      refine Ev.bind (free_one1 65536 (65536 - en) en (by omega) (by omega)) (Ev.ite (fun _ => ?_) (fun h => absurd rfl h))
      exact Ev.bind (largest_one1 65536 (65536 - en) en (by omega)) (Ev.now fun _ => by simp)
  | x :: rest, pre, en, hlen, hx, h0, h1 => by
    have hx0 := hx x List.mem_cons_self
    have hlen' := hlen
    simp only [List.length_append, List.length_cons] at hlen'
    have hrd : rd (pre ++ x :: rest) (pre.length : Int) = x := by simp [rd, List.getD]
    have hlt : (pre.length : Int) < ((pre ++ x :: rest).length : Int) := by simp; omega
    have hnx : wrap64 ((pre.length : Int) + 1) = ((pre ++ [x]).length : Int) := by
      rw [w64 (by omega) (by omega)]
      simp
    obtain ⟨n, hn⟩ : ∃ n, n = 1 + x := ⟨_, rfl⟩
    have hn1 : wrap64 (1 + wrap64 x) = n := by rw [w64 (n := x) (by omega) (by omega), w64 (by omega) (by omega), hn]
    have hs : wrap64 (en + n) = en + n := w64 (by omega) (by omega)
    refine Ev.succ (g := fun k => (alloc_Map_Take.f k 65536 (one1 en (65536 - en)) n en).bind fun bt413 => (if en + n > 65536 then (some (bt413.2.2.2 == 11)) else (if bt413.2.2.2 = 0 then ((tegulalaw35_run.f en n).bind fun t422 => ((tegularef32_Same.f k bt413.1 t422).bind fun t425 => (if t425 = true then (tegulalaw35_AllocLarge.l0 k (pre ++ x :: rest) (en + n) ((pre ++ [x]).length : Int) bt413.2.1 bt413.2.2.1) else (some false)))) else (some false)))) (fun k => ?_) ?_
    · simp only [tegulalaw35_AllocLarge.l0]
      rw [if_pos hlt, if_pos (by omega), hrd, hn1, hs, hnx]
    · by_cases hbig : en + n > 65536
      · refine Ev.bind (take_full 65536 n en _ (free_one1 65536 (65536 - en) en (by omega) (by omega)) (by omega) h0 h1 (by omega)) (Ev.ite (fun _ => Ev.now fun _ => rfl) (fun h => absurd hbig h))
      · have hne : one1 en (65536 - en) = [⟨0, 65536 - en, en⟩] := if_neg (by omega)
        rw [hne]
        refine Ev.bind (take_single (M := 65536) h0 (by omega) (by omega) (by omega) (by omega)) (Ev.ite (fun h => absurd h hbig) (fun _ => Ev.ite (fun _ => ?_) (fun h => absurd rfl h)))
        refine Ev.bind (Ev.now (r := [⟨0, n, en⟩]) fun _ => rfl) (Ev.bind (same_one n en) (Ev.ite (fun _ => ?_) (fun h => absurd rfl h)))
        have ih := large_loop rest (pre ++ [x]) (en + n) (by rw [List.append_assoc]; exact hlen) (fun y hy => hx y (List.mem_cons_of_mem _ hy)) (by omega) (by omega)
        rw [List.append_assoc, List.singleton_append, show 65536 - (en + n) = 65536 - en - n by omega] at ih
        exact ih
theorem alarge_ev (l : List Int) (hx : ∀ x ∈ l, 0 ≤ x ∧ x ≤ 65535) : Ev (fun k => tegulalaw35_AllocLarge.f k l) true := by
  refine Ev.bind awake_ev (Ev.ite (fun _ => ?_) (fun h => absurd rfl h))
  refine Ev.ite (fun _ => Ev.now fun _ => rfl) (fun hl => ?_)
  refine Ev.bind (new_ok (a0 := 65536) (by omega) (by omega)) (Ev.ite (fun _ => ?_) (fun h => absurd rfl h))
  have h := large_loop l [] 0 (by simp; omega) hx (by omega) (by omega)
  exact h
end Go.Proofs.Ytcjpikjbjehjeaa.PAlloc
namespace Go.Proofs.Ytcjpikjbjehjeaa.Pure
open Go.RowKit
theorem AllocLarge : ∀ (l0 : (List Int)), (l0.length ≤ maxLen ∧ ∀ yl0 ∈ l0, (Lit.int .u16 yl0).wf = true) → ∃ k, PAlloc.tegulalaw35_AllocLarge.f k l0 = some true := fun l hl => (PAlloc.alarge_ev l fun x hx => bounds_u16 (hl.2 x hx)).ex
end Go.Proofs.Ytcjpikjbjehjeaa.Pure
