/- RefcountInverse: dropping what was added, after up to 20 calls, restores the counts and returns the runs of the slots whose count was 0 before. No condition beside the law's own. -/
import Derived.Test.YtnloofhpdlggnaaRef4Refcount
import Derived.Test.YtnloofhpdlggnaaPRefcountyRefcountInverse
import Derived.OpenShut
namespace Go.Proofs.Ytnloofhpdlggnaa.PRefcount
open Go.RowKit Go.Proofs.YtnloofhpdlggnaaW.PrintWords
theorem chg_back {B : Int} {c : List Int} {l : List S41} (hI : Inv B c) (h0 : 0 ≤ B) (hB : B ≤ 100000000) (hl : l.length ≤ 1000) (hp : permB (c.length : Int) l = true) : chg (-1) l (chg 1 l c) = c := by
  have hx := hI.add (by omega) (by omega) hp
  refine list_ext (by rw [chg_len, chg_len]) fun t h1 h2 => ?_
  rw [chg_len, chg_len] at h2
  rw [sub_get hx (by omega) (by omega) (by rw [chg_len]; exact hp) h1 (by rw [chg_len]; exact h2), add_get hI (by omega) (by omega) hp h1 h2]
  omega
theorem inv_loop {r : Bool} (c y x : List Int) (free : List S41) (hc : c.length ≤ 65536) (hy : y.length = c.length) : ∀ (n : Nat) (s : Int) (acc : List S41), 0 ≤ s → s + n = c.length → acc.length ≤ s →
    Ev (fun k => (tegulalaw34_same.f k c c).bind fun t401 => (if t401 = true then ((tegularef32_Runs.f k (acc ++ pick (fun t => decide (rd c t = 0) && decide (rd y t > 0)) s n)).bind fun t402 => ((tegularef32_Same.f k free t402).bind fun t405 => (if t405 = true then ((tegulalaw34_same.f k x y).bind fun t406 => (some t406)) else (some false)))) else (some false))) r →
    Ev (fun k => tegulalaw34_RefcountInverse.l0 k c y free 0 acc s x c) r
  | 0, s, acc, h0, h1, h2, h => by
    rw [pick, List.append_nil] at h
    refine Ev.succ (fun k => ?_) h
    simp only [tegulalaw34_RefcountInverse.l0]
    rw [if_neg (by omega), if_pos trivial]
  | n + 1, s, acc, h0, h1, h2, h => by
    rw [pick] at h
    by_cases hz : rd c s = 0
    · by_cases hp : rd y s > 0
      · rw [if_pos (by rw [decide_eq_true hz, decide_eq_true hp]; rfl), ← List.append_assoc] at h
        refine Ev.succ (fun k => ?_) (inv_loop c y x free hc hy n (s + 1) (acc ++ [⟨0, 1, s⟩]) (by omega) (by omega) (by simp; omega) h)
        simp only [tegulalaw34_RefcountInverse.l0]
        rw [if_pos (by omega), if_pos h0, if_pos hz, if_pos (by omega), if_pos hp, if_pos (by omega), w64 (n := s + 1) (by omega) (by omega)]
      · rw [if_neg (by rw [decide_eq_true hz, decide_eq_false hp]; decide), List.nil_append] at h
        refine Ev.succ (fun k => ?_) (inv_loop c y x free hc hy n (s + 1) acc (by omega) (by omega) (by omega) h)
        simp only [tegulalaw34_RefcountInverse.l0]
        rw [if_pos (by omega), if_pos h0, if_pos hz, if_pos (by omega), if_neg hp, w64 (n := s + 1) (by omega) (by omega)]
    · rw [if_neg (by rw [decide_eq_false hz, Bool.false_and]; decide), List.nil_append] at h
      refine Ev.succ (fun k => ?_) (inv_loop c y x free hc hy n (s + 1) acc (by omega) (by omega) (by omega) h)
      simp only [tegulalaw34_RefcountInverse.l0]
      rw [if_pos (by omega), if_pos h0, if_neg hz, w64 (n := s + 1) (by omega) (by omega)]
theorem inv_ev (a0 : Int) (l : List S57) (l2 : List S41) (h0 : 0 ≤ a0) (h1 : a0 ≤ 255) (hl : l.length ≤ 9223372036854775807) : Ev (fun k => tegulalaw34_RefcountInverse.f k a0 l l2) true := by
  refine Ev.bind awake_ev (Ev.ite (fun _ => ?_) (fun h => absurd rfl h))
  refine Ev.bind (few_eq l hl) ?_
  refine Ev.ite (fun hf => ?_) (fun _ => Ev.succ (g := fun _ => some true) (fun k => by simp only [tegulalaw34_RefcountInverse.j0]; rw [if_pos trivial]) (Ev.now fun _ => rfl))
  by_cases hl2 : (l2.length : Int) > 8
  · refine Ev.succ (g := fun _ => some true) (fun k => ?_) (Ev.now fun _ => rfl)
    simp only [tegulalaw34_RefcountInverse.j0]
    rw [if_pos (decide_eq_true hl2)]
  · obtain ⟨c, e, hI, _⟩ := build_eq a0 l h0 h1 hf
    have hc := hI.1
    have hl8 : l2.length ≤ 8 := by omega
    refine Ev.succ (g := fun k => (tegulalaw34_build.f k a0 l).bind fun bt371 => ((refcount_Counts_Add.f k bt371.1 l2).bind fun bt379 => ((tegularef34_Counts_Add.f k bt371.2.1 l2).bind fun bt384 => (if bt371.2.2 = true then (tegulalaw34_RefcountInverse.j1 k l2 bt371.2.1 bt379.2 bt384.1 (bt379.2 != bt384.2) bt379.1) else (tegulalaw34_RefcountInverse.j1 k l2 bt371.2.1 bt379.2 bt384.1 true bt379.1))))) (fun k => ?_) ?_
    · simp only [tegulalaw34_RefcountInverse.j0]
      rw [if_neg (by rw [decide_eq_false hl2]; decide)]
    · refine Ev.bind e (Ev.bind (code_Add c l2 (by omega) (by omega)) (Ev.bind (ref_Add c l2 (by omega) (by omega)) (Ev.ite (fun _ => ?_) (fun h => absurd rfl h))))
      have hne : ((addO l2 c).2 != (addO l2 c).2) = false := bne_self_eq_false _
      rw [hne]
      by_cases hp : permB (c.length : Int) l2 = true
      · have ha : addO l2 c = (chg 1 l2 c, 0) := if_pos hp
        rw [ha]
        have hx := hI.add (by omega) (by omega) hp
        have hb := chg_back hI (by omega) (by omega) (by omega) hp
        have hpx : permB ((chg 1 l2 c).length : Int) l2 = true := by rw [chg_len]; exact hp
        obtain ⟨r, e1, _, hrl, hz, hok⟩ := Drop_eq (chg 1 l2 c) l2 hx (by omega) (by omega)
        have h3 : r.2.2 = 0 := hok hpx (by
          rintro ⟨t, t0, t1, t2⟩
          rw [hb] at t2
          rw [chg_len] at t1
          have := hI.2 t t0 t1
          omega)
        obtain ⟨_, h5, _, h7⟩ := hz h3
        rw [hb] at h5 h7
        refine Ev.succ (g := fun k => (refcount_Counts_Drop.f k (chg 1 l2 c) l2).bind fun bt388 => (tegulalaw34_RefcountInverse.l0 k c (chg 1 l2 c) bt388.2.1 bt388.2.2 ([] : List S41) 0 (chg 1 l2 c) bt388.1)) (fun k => ?_) (Ev.bind e1 ?_)
        · simp only [tegulalaw34_RefcountInverse.j1]
          rw [if_neg (by decide), if_pos trivial]
        · show Ev (fun k => tegulalaw34_RefcountInverse.l0 k c (chg 1 l2 c) r.2.1 r.2.2 [] 0 (chg 1 l2 c) r.1) true
          rw [h3, h5]
          have hpl := pick_len (fun t => decide (rd c t = 0) && decide (rd (chg 1 l2 c) t > 0)) c.length 0
          obtain ⟨R, e2, hR⟩ := ref_runs1 (pick (fun t => decide (rd c t = 0) && decide (rd (chg 1 l2 c) t > 0)) 0 c.length) (by omega) (pick_one (by omega) (by omega))
          have hRR : R = r.2.1 := hR.uniq h7 fun t => by
            rw [pick_cov]
            constructor
            · rintro ⟨t0, t1, t2⟩
              have t2 := Bool.and_eq_true_iff.1 t2
              have t3 := of_decide_eq_true t2.1
              have t4 := of_decide_eq_true t2.2
              refine ⟨t3, (cnt_pos t l2).1 ?_⟩
              have := add_get hI (by omega) (by omega) hp t0 (by omega)
              omega
            · rintro ⟨t3, t4⟩
              obtain ⟨t0, t1⟩ := permB_cov hp t4
              refine ⟨t0, by omega, ?_⟩
              have := add_get hI (by omega) (by omega) hp t0 (by omega)
              have := (cnt_pos t l2).2 t4
              rw [decide_eq_true t3, decide_eq_true (by omega)]
              rfl
          rw [hRR] at e2
          refine inv_loop c _ _ _ hc (chg_len _ _ _) c.length 0 [] (by omega) (by omega) (by simp) ?_
          rw [List.nil_append]
          refine Ev.bind (same_true hI) (Ev.ite (fun _ => ?_) (fun h => absurd rfl h))
          refine Ev.bind e2 (Ev.bind (same_refl r.2.1 (by omega)) (Ev.ite (fun _ => ?_) (fun h => absurd rfl h)))
          exact Ev.bind (same_true hx) (Ev.now fun _ => rfl)
      · have ha : addO l2 c = ([], 2) := if_neg hp
        rw [ha]
        refine Ev.succ (g := fun _ => some true) (fun k => ?_) (Ev.now fun _ => rfl)
        simp only [tegulalaw34_RefcountInverse.j1]
        rw [if_neg (by decide), if_neg (by decide)]
        rfl
end Go.Proofs.Ytnloofhpdlggnaa.PRefcount
namespace Go.Proofs.Ytnloofhpdlggnaa.Pure
open Go.RowKit
theorem RefcountInverse : ∀ (a0 : Int) (l1 : (List PRefcount.S57)) (l2 : (List PRefcount.S41)), (Lit.int .u8 a0).wf = true → (l1.length ≤ maxLen ∧ ∀ yl1 ∈ l1, (True ∧ (yl1.f1.length ≤ maxLen ∧ ∀ yyl1_f1 ∈ yl1.f1, ((Lit.int .i64 yyl1_f1.f0).wf = true ∧ (Lit.int .i64 yyl1_f1.f1).wf = true ∧ (Lit.int .i64 yyl1_f1.f2).wf = true)))) → (l2.length ≤ maxLen ∧ ∀ yl2 ∈ l2, ((Lit.int .i64 yl2.f0).wf = true ∧ (Lit.int .i64 yl2.f1).wf = true ∧ (Lit.int .i64 yl2.f2).wf = true)) → ∃ k, PRefcount.tegulalaw34_RefcountInverse.f k a0 l1 l2 = some true := fun a0 l l2 h0 hl _ => (PRefcount.inv_ev a0 l l2 (bounds_u8 h0).1 (bounds_u8 h0).2 (Nat.le_trans hl.1 (by decide))).ex
end Go.Proofs.Ytnloofhpdlggnaa.Pure
