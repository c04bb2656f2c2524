/- What the code's Runs and the document's Runs answer, for every list: the runs of what its valid extents cover. -/
import Derived.Test.YtcjpikjbjehjeaaRun2AllocB
namespace Go.Proofs.Ytcjpikjbjehjeaa.PAllocB
open Go.RowKit Go.Proofs.YtcjpikjbjehjeaaW.PrintWords
theorem leo_add' {α : Type} {f : Nat → Option α} (m : ∀ k, LeO (f k) (f (k + 1))) : ∀ d k, LeO (f k) (f (k + d))
  | 0, _ => LeO.refl _
  | d + 1, k => LeO.trans (leo_add' m d k) (m (k + d))
theorem Ev.of_mono {α : Type} {f : Nat → Option α} {r : α} (m : ∀ k, LeO (f k) (f (k + 1))) {k0 : Nat} (h : f k0 = some r) : Ev f r := by
  refine ⟨k0, fun k hk => ?_⟩
  obtain ⟨d, rfl⟩ : ∃ d, k = k0 + d := ⟨k - k0, by omega⟩
  exact leo_add' m d k0 r h
theorem Ev.ex {α : Type} {f : Nat → Option α} {r : α} (h : Ev f r) : ∃ k, f k = some r := by
  obtain ⟨k0, hk⟩ := h
  exact ⟨k0, hk k0 (Nat.le_refl _)⟩
/-- R lists the runs of the slots of which P speaks. -/
def IsRuns (P : Int → Prop) (R : List S53) : Prop := RO (-1) R ∧ (∀ x ∈ R, OkS x) ∧ ∀ t, Cov R t ↔ P t
theorem IsRuns.uniq {P Q : Int → Prop} {R R' : List S53} (h : IsRuns P R) (h' : IsRuns Q R') (hpq : ∀ t, P t ↔ Q t) : R = R' := ro_unique h.1 h'.1 fun t => (h.2.2 t).trans ((hpq t).trans (h'.2.2 t).symm)
theorem within_eq (a n m : Int) (hm0 : 0 ≤ m) (hm : m ≤ 65536) : extent_within.f a n m = some (decide (0 ≤ a ∧ 0 ≤ n ∧ a + n ≤ m)) := by
  unfold extent_within.f
  by_cases h1 : a ≥ 0
  · rw [if_pos h1]
    by_cases h2 : n ≥ 0
    · rw [if_pos h2]
      by_cases h3 : a ≤ m
      · rw [if_pos h3, w64 (by omega) (by omega)]
        congr 1
        exact decide_eq_decide.2 (by omega)
      · rw [if_neg h3, decide_eq_false (by omega)]
    · rw [if_neg h2, decide_eq_false (by omega)]
  · rw [if_neg h1, decide_eq_false (by omega)]
theorem prop_one (x : S53) : propB x = oneB x := by
  have h := propB_eq x
  have h2 : extent_proper.f x.f0 x.f1 x.f2 = some (oneB x) := by
    unfold extent_proper.f oneB
    rw [within_eq x.f0 x.f1 65536 (by omega) (by omega), within_eq x.f2 x.f1 65536 (by omega) (by omega)]
    simp only [Option.bind_some]
    by_cases h1 : x.f1 ≥ 1
    · rw [if_pos h1]
      by_cases h3 : 0 ≤ x.f0 ∧ 0 ≤ x.f1 ∧ x.f0 + x.f1 ≤ 65536
      · rw [if_pos (decide_eq_true h3)]
        congr 1
        exact decide_eq_decide.2 (by omega)
      · rw [if_neg (by rw [decide_eq_false h3]; decide), decide_eq_false (by omega)]
    · rw [if_neg h1, decide_eq_false (by omega)]
  rw [h] at h2
  exact Option.some.inj h2
theorem code_runs (l : List S53) (hl : l.length ≤ 1000000000) : ∃ R, Ev (fun k => extent_Runs.f k l) R ∧ IsRuns (Cov (l.filter oneB)) R ∧ R.length ≤ l.length := by
  have hs := sortL_facts (l.filter oneB)
  have hlen := hs.1.length_eq
  have hfl := List.length_filter_le oneB l
  have hpo : l.filter propB = l.filter oneB := List.filter_congr fun x _ => prop_one x
  obtain ⟨R, e, r1, r2, r3, r4⟩ := runs_loop (sortL (l.filter oneB)) [] [] (l.length + 1) trivial (fun x hx => oneB_ok (List.mem_filter.1 (hs.1.mem_iff.1 hx)).2) (by simp) hs.2 (by simp) (by rw [List.nil_append, hlen]; omega) (by simp) (by rw [hlen]; omega)
  refine ⟨R, Ev.of_mono (k0 := l.length + 1) (extent_Runs.mono l) ?_, ⟨r1, r2, fun t => (r3 t).trans ?_⟩, by rw [hlen] at r4; simp at r4; omega⟩
  · unfold extent_Runs.f api_Extent_55.f
    rw [if_pos hl, hpo]
    exact e
  · rw [cov_perm hs.1 t]
    exact ⟨fun h => h.elim (fun h => absurd h (cov_nil _)) id, .inr⟩
theorem runs_one {R : List S53} {c : Int} (hr : RO c R) (ho : ∀ x ∈ R, OkS x) : ∀ x ∈ R, oneB x = true := by
  induction R generalizing c with
  | nil => simp
  | cons y R ih =>
    obtain ⟨h0, _, _, h3⟩ := hr
    intro x hx
    rcases List.mem_cons.1 hx with rfl | hx
    · have h := ho x List.mem_cons_self
      unfold OkS at h
      unfold oneB
      exact decide_eq_true ⟨by omega, by omega, by omega, by omega, by omega⟩
    · exact ih h3 (fun z hz => ho z (List.mem_cons_of_mem _ hz)) x hx
theorem same_refl_loop (a : List S53) (ha : a.length ≤ 2000000000) : ∀ (n : Nat) (s : Int), 0 ≤ s → s + n = a.length → Ev (fun k => tegularef32_Same.l0 k a a s) true
  | 0, s, h0, h1 => Ev.succ (g := fun _ => some true) (fun k => by simp only [tegularef32_Same.l0]; rw [if_neg (by omega)]) (Ev.now fun _ => rfl)
  | n + 1, s, h0, h1 => by
    refine Ev.succ (fun k => ?_) (same_refl_loop a ha n (s + 1) (by omega) (by omega))
    simp only [tegularef32_Same.l0]
    rw [if_pos (by omega), if_pos h0, if_pos (by omega), if_neg (by simp), w64 (by omega) (by omega)]
theorem same_refl (a : List S53) (ha : a.length ≤ 2000000000) : Ev (fun k => tegularef32_Same.f k a a) true := by
  refine Ev.same (fun k => ?_) (same_refl_loop a ha a.length 0 (by omega) (by omega))
  unfold tegularef32_Same.f
  rw [if_pos rfl]
end Go.Proofs.Ytcjpikjbjehjeaa.PAllocB
