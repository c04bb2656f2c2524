/- AllocFill: taking single slots from any map of up to 99 slots until none is left yields each free slot once. No condition beside the law's own. -/
import Derived.Test.YtcjpikjbjehjeaaAlo7AllocB
import Derived.Test.YtcjpikjbjehjeaaPAllocByAllocFill
import Derived.OpenShut
namespace Go.Proofs.Ytcjpikjbjehjeaa.PAllocB
open Go.RowKit Go.Proofs.YtcjpikjbjehjeaaW.PrintWords
set_option linter.unusedVariables false
set_option linter.unusedSimpArgs false
theorem fill_loop (n : List Bool) (hn : n.length ≤ 99) (a2 : Int) (h0 : 0 ≤ a2) (h1 : a2 ≤ 255) : ∀ (d : Nat) (seen m : List Bool) (rs : List S53), m.length = n.length → seen.length = n.length → IsRuns (fr m) rs → numF m = d → (∀ t, fr m t → fr n t ∧ rdOf false seen t = false) →
    Ev (fun k => tegulalaw35_AllocFill.l0 k a2 n seen (d : Int) (m.length : Int) rs) true
  | 0, seen, m, rs, hm, _, hr, hd, _ => by
    obtain ⟨l1, M', rs', m', er, e1, _, _, hT⟩ := take_eq m (by omega) rs hr 1 0
    have her : er = 11 := by
      rcases hT with ⟨_, h⟩ | ⟨h, _⟩ | ⟨_, _, h, _⟩
      · omega
      · exact h
      · omega
    subst her
    have hF := free_ev (m.length : Int) (by omega) hr
    refine Ev.shift ?_
    simp only [tegulalaw35_AllocFill.l0]
    refine Ev.ite (fun h => by omega) (fun _ => Ev.bind e1 (Ev.ite (fun _ => Ev.bind hF (Ev.now fun _ => ?_)) (fun h => absurd rfl h)))
    rw [hd]
    rfl
  | d + 1, seen, m, rs, hm, hs, hr, hd, hinv => by
    have hw : wrap64 ((n.length : Int) + 1) = n.length + 1 := w64 (by omega) (by omega)
    have hb : 0 ≤ Int.tmod (wrap64 a2) (wrap64 ((n.length : Int) + 1)) ∧ Int.tmod (wrap64 a2) (wrap64 ((n.length : Int) + 1)) ≤ n.length := by
      rw [hw, w64 (n := a2) (by omega) (by omega), Int.tmod_eq_emod_of_nonneg h0]
      refine ⟨Int.emod_nonneg _ (by omega), ?_⟩
      have := Int.emod_lt_of_pos a2 (b := (n.length : Int) + 1) (by omega)
      omega
    obtain ⟨l1, M', rs', m', er, e1, _, hl1, hT⟩ := take_eq m (by omega) rs hr 1 (Int.tmod (wrap64 a2) (wrap64 ((n.length : Int) + 1)))
    rcases hT with ⟨_, h⟩ | ⟨_, h, _⟩ | ⟨he, _, hle, _, _, hM, hml, hr', hfr, hpl, hcf, hln, hone⟩
    · omega
    · omega
    · obtain ⟨s, hl⟩ := hone rfl
      subst he hM hl
      have hc : Cov [(⟨0, 1, s⟩ : S53)] s := (cov_one _ _).2 ⟨Int.le_refl _, by show s < s + 1; omega⟩
      obtain ⟨f1, f2, f3⟩ := hcf s hc
      obtain ⟨⟨g1, g2, g3⟩, hseen⟩ := hinv s ⟨f1, f2, f3⟩
      have hnr : rdOf false n s = false := by
        unfold frB at g3
        simpa using g3
      obtain ⟨Q, _, hQ⟩ := permitted_eq m.length (by omega) (by omega) [] _ hl1 hpl.1
      have hsub := (sub_len (n := m.length) hr hQ (hr'.of hfr) (fun t h => ⟨h.1, h.2.1⟩) (ro_cov_ok hpl.1)).2 hcf
      have hQl := hpl.2 Q hQ
      have e5 := lenS_free hr
      have e6 := lenS_free hr'
      have ih := fill_loop n hn a2 h0 h1 d (seen.set s.toNat true) m' rs' (by omega) (by rw [List.length_set]; exact hs) hr' (by omega) (fun t ht => by
        obtain ⟨h2, h3⟩ := (hfr t).1 ht
        have h4 := hinv t h2
        refine ⟨h4.1, ?_⟩
        have hts : t ≠ s := fun e => h3 (by rw [e]; exact hc)
        rw [rdOf_set false seen s t true f1 (by omega) h2.1, if_neg hts]
        exact h4.2)
      have hnb := (numP_bound (frB m) m.length 0).2
      have hnF : numF m = numP (frB m) 0 m.length := rfl
      have hdw : wrap64 (((d + 1 : Nat) : Int) - 1) = (d : Int) := by
        rw [w64 (by omega) (by omega)]
        omega
      refine Ev.shift ?_
      simp only [tegulalaw35_AllocFill.l0]
      rw [hdw]
      refine Ev.ite (fun _ => Ev.ite (fun h => by omega) (fun _ => Ev.bind e1 ?_)) (fun h => absurd (by omega) h)
      refine Ev.same (fun k => ?_) ih
      have er1 : rd_T53 [(⟨0, 1, s⟩ : S53)] 0 = ⟨0, 1, s⟩ := rfl
      simp only [er1]
      rw [if_pos trivial, if_pos (show (([(⟨0, 1, s⟩ : S53)].length : Nat) : Int) = 1 from rfl), if_pos (show (0 : Int) < (([(⟨0, 1, s⟩ : S53)].length : Nat) : Int) by simp), if_pos trivial, if_neg (by omega), if_neg (by omega), if_pos f1, if_pos (by omega), if_neg (by rw [hseen]; decide), if_pos (by omega), if_neg (by rw [hnr]; decide)]
theorem fill_ev (a0 : Int) (l : List S57) (a2 : Int) (h0 : 0 ≤ a0) (h1 : a0 ≤ 255) (h2 : 0 ≤ a2) (h3 : a2 ≤ 255) (hl : l.length ≤ 9223372036854775807) : Ev (fun k => tegulalaw35_AllocFill.f k a0 l a2) true := by
  refine Ev.bind awake_ev (Ev.ite (fun _ => ?_) (fun h => absurd rfl h))
  refine Ev.bind (few_eq l hl) ?_
  refine Ev.ite (fun hf => ?_) (fun _ => Ev.now fun _ => rfl)
  obtain ⟨m, rs, e, hm, hr⟩ := build_eq a0 l h0 h1 hf
  have hfd : Ev (fun k => tegularef35_Map_Free.f k m) (numF m) := rfree_eq m (by omega)
  have hnb := numP_bound (frB m) m.length 0
  have hnF : numF m = numP (frB m) 0 m.length := rfl
  refine Ev.bind e (Ev.ite (fun _ => Ev.ite (fun _ => Ev.ite (fun _ => Ev.bind hfd ?_) (fun h => absurd (show ((m.length : Int)).toNat ≤ 281474976710656 by omega) h)) (fun h => absurd (show (0 : Int) ≤ (m.length : Int) by omega) h)) (fun h => absurd rfl h))
  have hlen : (List.replicate ((m.length : Int) : Int).toNat false).length = m.length := by rw [List.length_replicate]; omega
  have hloop := fill_loop m hm a2 h2 h3 (numF m).toNat (List.replicate ((m.length : Int) : Int).toNat false) m rs rfl hlen hr (by omega) (fun t h => ⟨h, by
    unfold rdOf
    rw [List.getD_eq_getElem?_getD, List.getElem?_replicate]
    split <;> rfl⟩)
  rw [show ((numF m).toNat : Int) = numF m by omega] at hloop
  exact hloop
end Go.Proofs.Ytcjpikjbjehjeaa.PAllocB
namespace Go.Proofs.Ytcjpikjbjehjeaa.Pure
open Go.RowKit
theorem AllocFill : ∀ (a0 : Int) (l1 : (List PAllocB.S57)) (a2 : Int), (Lit.int .u8 a0).wf = true → (l1.length ≤ maxLen ∧ ∀ yl1 ∈ l1, ((Lit.int .u8 yl1.f0).wf = true ∧ (Lit.int .u8 yl1.f1).wf = true ∧ (Lit.int .u8 yl1.f2).wf = true ∧ (yl1.f3.length ≤ maxLen ∧ ∀ yyl1_f3 ∈ yl1.f3, ((Lit.int .i64 yyl1_f3.f0).wf = true ∧ (Lit.int .i64 yyl1_f3.f1).wf = true ∧ (Lit.int .i64 yyl1_f3.f2).wf = true)))) → (Lit.int .u8 a2).wf = true → ∃ k, PAllocB.tegulalaw35_AllocFill.f k a0 l1 a2 = some true := fun a0 l a2 h0 hl h2 => (PAllocB.fill_ev a0 l a2 (bounds_u8 h0).1 (bounds_u8 h0).2 (bounds_u8 h2).1 (bounds_u8 h2).2 (Nat.le_trans hl.1 (by decide))).ex
end Go.Proofs.Ytcjpikjbjehjeaa.Pure
