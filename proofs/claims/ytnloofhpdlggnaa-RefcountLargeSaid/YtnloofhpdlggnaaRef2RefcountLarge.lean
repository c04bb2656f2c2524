/- What the code's Runs and the document's Runs answer: the runs of what is covered; marks, lists of slots, Zero. -/
import Derived.Test.YtnloofhpdlggnaaRef1RefcountLarge
namespace Go.Proofs.Ytnloofhpdlggnaa.PRefcountLarge
open Go.RowKit Go.Proofs.YtnloofhpdlggnaaW.PrintWords
/-- R lists the runs of the slots of which P speaks. -/
def IsRuns (P : Int → Prop) (R : List S41) : Prop := RO (-1) R ∧ (∀ x ∈ R, OkS x) ∧ ∀ t, Cov R t ↔ P t
theorem IsRuns.uniq {P Q : Int → Prop} {R R' : List S41} (h : IsRuns P R) (h' : IsRuns Q R') (hpq : ∀ t, P t ↔ Q t) : R = R' := ro_unique h.1 h'.1 fun t => (h.2.2 t).trans ((hpq t).trans (h'.2.2 t).symm)
theorem IsRuns.of {P Q : Int → Prop} {R : List S41} (h : IsRuns P R) (hpq : ∀ t, P t ↔ Q t) : IsRuns Q R := ⟨h.1, h.2.1, fun t => (h.2.2 t).trans (hpq t)⟩
theorem within_ok {a n m : Int} (h0 : 0 ≤ a) (h1 : 0 ≤ n) (h2 : a + n ≤ m) (hm : m ≤ 65536) : extent_within.f a n m = some true := by
  unfold extent_within.f
  rw [if_pos h0, if_pos h1, if_pos (by omega), w64 (by omega) (by omega), decide_eq_true (by omega)]
theorem proper_one {x : S41} (h : oneB x = true) : extent_proper.f x.f0 x.f1 x.f2 = some true := by
  unfold oneB at h
  have h' := of_decide_eq_true h
  unfold extent_proper.f
  rw [if_pos (by omega), within_ok (by omega) (by omega) (by omega) (by omega)]
  simp only [Option.bind_some]
  rw [if_pos trivial, within_ok (by omega) (by omega) (by omega) (by omega)]
  rfl
theorem code_runs (l : List S41) (hl : l.length ≤ 1000000000) (ho : ∀ x ∈ l, oneB x = true) : ∃ R, Ev (fun k => extent_Runs.f k l) R ∧ IsRuns (Cov l) R ∧ R.length ≤ l.length := by
  have hs := sortL_facts l
  have hlen := hs.1.length_eq
  obtain ⟨R, e, r1, r2, r3, r4⟩ := runs_loop (sortL l) [] [] (l.length + 1) trivial (fun x hx => oneB_ok (ho x (hs.1.mem_iff.1 hx))) (by simp) hs.2 (by simp) (by rw [List.nil_append, hlen]; omega) (by simp) (by rw [hlen]; omega)
  refine ⟨R, Ev.of_mono (k0 := l.length + 1) (extent_Runs.mono l) ?_, ⟨r1, r2, fun t => (r3 t).trans ?_⟩, by rw [hlen] at r4; simpa using r4⟩
  · unfold extent_Runs.f api_Extent_47.f
    rw [if_pos ⟨hl, fun x hx => proper_one (ho x hx)⟩]
    exact e
  · rw [cov_perm hs.1 t]
    exact ⟨fun h => h.elim (fun h => absurd h (cov_nil _)) id, .inr⟩
/-- The slots from s on, n of them, of which P speaks. -/
def pick (P : Int → Bool) : Int → Nat → List S41
  | _, 0 => []
  | s, n + 1 => (if P s = true then [⟨0, 1, s⟩] else []) ++ pick P (s + 1) n
theorem pick_mem {P : Int → Bool} : ∀ {n : Nat} {s : Int} {x : S41}, x ∈ pick P s n → x.f0 = 0 ∧ x.f1 = 1 ∧ s ≤ x.f2 ∧ x.f2 < s + n ∧ P x.f2 = true
  | 0, s, x, h => by simp [pick] at h
  | n + 1, s, x, h => by
    rw [pick] at h
    rcases List.mem_append.1 h with h | h
    · by_cases hp : P s = true
      · rw [if_pos hp] at h
        rw [List.mem_singleton.1 h]
        exact ⟨rfl, rfl, Int.le_refl _, by show s < s + ((n + 1 : Nat) : Int); omega, hp⟩
      · rw [if_neg hp] at h
        cases h
    · obtain ⟨h0, h1, h2, h3, h4⟩ := pick_mem h
      exact ⟨h0, h1, by omega, by omega, h4⟩
theorem pick_cov {P : Int → Bool} : ∀ {n : Nat} {s : Int} (t : Int), Cov (pick P s n) t ↔ s ≤ t ∧ t < s + n ∧ P t = true
  | 0, s, t => ⟨fun h => absurd h (cov_nil _), fun h => by omega⟩
  | n + 1, s, t => by
    rw [pick, cov_append, pick_cov]
    by_cases hp : P s = true
    · rw [if_pos hp, cov_cons]
      simp only
      constructor
      · rintro ((h | h) | h)
        · have : t = s := by omega
          subst this
          exact ⟨by omega, by omega, hp⟩
        · exact absurd h (cov_nil _)
        · exact ⟨by omega, by omega, h.2.2⟩
      · intro h
        by_cases hs : t = s
        · exact .inl (.inl (by omega))
        · exact .inr ⟨by omega, by omega, h.2.2⟩
    · rw [if_neg hp]
      constructor
      · rintro (h | h)
        · exact absurd h (cov_nil _)
        · exact ⟨by omega, by omega, h.2.2⟩
      · intro h
        by_cases hs : t = s
        · subst hs
          exact absurd h.2.2 hp
        · exact .inr ⟨by omega, by omega, h.2.2⟩
theorem pick_len (P : Int → Bool) : ∀ (n : Nat) (s : Int), (pick P s n).length ≤ n
  | 0, _ => Nat.le_refl _
  | n + 1, s => by
    have := pick_len P n (s + 1)
    rw [pick, List.length_append]
    by_cases hp : P s = true
    · rw [if_pos hp]
      simp
      omega
    · rw [if_neg hp]
      simp
      omega
theorem pick_one {P : Int → Bool} {n : Nat} {s : Int} (h0 : 0 ≤ s) (h1 : s + n ≤ 65536) : ∀ x ∈ pick P s n, oneB x = true := fun x hx => by
  obtain ⟨h2, h3, h4, h5, _⟩ := pick_mem hx
  unfold oneB
  exact decide_eq_true ⟨by omega, by omega, by omega, by omega, by omega⟩
/-- Marks set from slot s on, n of them. -/
def setM (P : Int → Bool) : Nat → Int → List Bool → List Bool
  | 0, _, m => m
  | n + 1, s, m => setM P n (s + 1) (m.set s.toNat (P s))
theorem setM_len (P : Int → Bool) : ∀ (n : Nat) (s : Int) (m : List Bool), (setM P n s m).length = m.length
  | 0, _, _ => rfl
  | n + 1, s, m => by rw [setM, setM_len, List.length_set]
theorem rdOf_set {α : Type} (d : α) (m : List α) (s t : Int) (b : α) (hs : 0 ≤ s) (hm : s < m.length) (ht : 0 ≤ t) : rdOf d (m.set s.toNat b) t = if t = s then b else rdOf d m t := by
  unfold rdOf
  rw [List.getD_eq_getElem?_getD, List.getD_eq_getElem?_getD, List.getElem?_set]
  by_cases h : t = s
  · subst h
    rw [if_pos rfl, if_pos (by omega), if_pos rfl]
    rfl
  · rw [if_neg (by omega), if_neg h]
theorem rd_set (m : List Int) (s t : Int) (b : Int) (hs : 0 ≤ s) (hm : s < m.length) (ht : 0 ≤ t) : rd (m.set s.toNat b) t = if t = s then b else rd m t := rdOf_set 0 m s t b hs hm ht
theorem setM_get (P : Int → Bool) : ∀ (n : Nat) (s : Int) (m : List Bool) (t : Int), 0 ≤ s → s + n ≤ m.length → 0 ≤ t → rdOf false (setM P n s m) t = if s ≤ t ∧ t < s + n then P t else rdOf false m t
  | 0, s, m, t, _, _, _ => by rw [setM, if_neg (by omega)]
  | n + 1, s, m, t, h0, h1, h2 => by
    rw [setM, setM_get P n (s + 1) _ t (by omega) (by rw [List.length_set]; omega) h2, rdOf_set false m s t (P s) h0 (by omega) h2]
    by_cases h : t = s
    · subst h
      rw [if_neg (by omega), if_pos rfl, if_pos (by omega)]
    · rw [if_neg h]
      by_cases h3 : s + 1 ≤ t ∧ t < s + 1 + n
      · rw [if_pos h3, if_pos (by omega)]
      · rw [if_neg h3, if_neg (by omega)]
end Go.Proofs.Ytnloofhpdlggnaa.PRefcountLarge
