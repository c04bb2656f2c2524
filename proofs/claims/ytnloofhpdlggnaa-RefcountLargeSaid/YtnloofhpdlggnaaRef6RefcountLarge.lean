/- Single: how many listed slots have the count 1. -/
import Derived.Test.YtnloofhpdlggnaaRef5RefcountLarge
namespace Go.Proofs.Ytnloofhpdlggnaa.PRefcountLarge
open Go.RowKit Go.Proofs.YtnloofhpdlggnaaW.PrintWords
theorem numP_lin {P Q R : Int → Bool} : ∀ {n : Nat} {s : Int}, (∀ t, s ≤ t → t < s + n → (if P t = true then (1 : Int) else 0) = (if Q t = true then 1 else 0) + if R t = true then 1 else 0) → numP P s n = numP Q s n + numP R s n
  | 0, _, _ => rfl
  | n + 1, s, h => by
    rw [numP, numP, numP, h s (Int.le_refl _) (by omega), numP_lin fun t h1 h2 => h t (by omega) (by omega)]
    omega
/-- The slots from s on, n of them, as one interval. -/
def inI (s n : Int) (t : Int) : Bool := decide (s ≤ t ∧ t < s + n)
theorem numP_sub (Q : Int → Bool) (s : Int) (n N : Nat) (h0 : 0 ≤ s) (h1 : s + n ≤ N) : numP (fun t => inI s n t && Q t) 0 N = numP Q s n := by
  have hN : N = s.toNat + (n + (N - s.toNat - n)) := by omega
  rw [hN, numP_add, numP_add, numP_false (n := s.toNat), numP_false (n := N - s.toNat - n)]
  · have e : (0 : Int) + (s.toNat : Int) = s := by omega
    rw [e]
    have : numP (fun t => inI s n t && Q t) s n = numP Q s n := numP_congr fun t h2 h3 => by
      show (inI s n t && Q t) = Q t
      unfold inI
      rw [decide_eq_true ⟨h2, h3⟩, Bool.true_and]
    rw [this]
    omega
  · intro t h2 h3
    show (inI s n t && Q t) = false
    unfold inI
    rw [decide_eq_false (by omega), Bool.false_and]
  · intro t h2 h3
    show (inI s n t && Q t) = false
    unfold inI
    rw [decide_eq_false (by omega), Bool.false_and]
theorem numP_inI (s : Int) (n N : Nat) (h0 : 0 ≤ s) (h1 : s + n ≤ N) : numP (inI s n) 0 N = n := by
  have h := numP_sub (fun _ => true) s n N h0 h1
  rw [numP_true fun t _ _ => rfl] at h
  exact (numP_congr fun t _ _ => (Bool.and_true _).symm).trans h
theorem sgl_inner {r : Int} (c : List Int) (hc : c.length ≤ 65536) (l : List S41) (len i te : Int) (hto : te ≤ c.length) : ∀ (n : Nat) (s : Int) (seen : List Bool) (m : Int), 0 ≤ s → s + n = te → seen.length = c.length → 0 ≤ m → m + n ≤ 1000000000 →
    Ev (fun k => refcount_Counts_Single.l0 k (setM (fun _ => true) n s seen) (m + numP (fun t => !rdOf false seen t && decide (rd c t = 1)) s n) l len (wrap64 (i + 1)) c) r → Ev (fun k => refcount_Counts_Single.l1 k seen m te s l len i c) r
  | 0, s, seen, m, h0, h1, h2, h3, h4, h => by
    rw [setM, numP, Int.add_zero] at h
    refine Ev.succ (fun k => ?_) h
    simp only [refcount_Counts_Single.l1]
    rw [if_neg (by omega)]
  | n + 1, s, seen, m, h0, h1, h2, h3, h4, h => by
    have hq : numP (fun t => !rdOf false (seen.set s.toNat true) t && decide (rd c t = 1)) (s + 1) n = numP (fun t => !rdOf false seen t && decide (rd c t = 1)) (s + 1) n := numP_congr fun t h5 h6 => by
      show (!rdOf false (seen.set s.toNat true) t && decide (rd c t = 1)) = _
      rw [rdOf_set false seen s t true h0 (by omega) (by omega), if_neg (by omega)]
    rw [setM, numP, ← hq] at h
    have hw : wrap64 (s + 1) = s + 1 := w64 (by omega) (by omega)
    by_cases hs : rdOf false seen s = true
    · rw [if_neg (by rw [hs]; simp), Int.zero_add] at h
      refine Ev.succ (fun k => ?_) (sgl_inner c hc l len i te hto n (s + 1) (seen.set s.toNat true) m (by omega) (by omega) (by rw [List.length_set]; exact h2) h3 (by omega) h)
      simp only [refcount_Counts_Single.l1]
      rw [if_pos (by omega), if_pos h0, if_pos (by omega), if_pos hs, hw]
    · have hs' : rdOf false seen s = false := Bool.eq_false_iff.2 hs
      by_cases h1c : rd c s = 1
      · rw [if_pos (by rw [hs', decide_eq_true h1c]; rfl), ← Int.add_assoc] at h
        refine Ev.succ (fun k => ?_) (sgl_inner c hc l len i te hto n (s + 1) (seen.set s.toNat true) (m + 1) (by omega) (by omega) (by rw [List.length_set]; exact h2) (by omega) (by omega) h)
        simp only [refcount_Counts_Single.l1]
        rw [if_pos (by omega), if_pos h0, if_pos (by omega), if_neg hs, if_pos (by omega), if_pos h1c, hw, w64 (n := m + 1) (by omega) (by omega)]
      · rw [if_neg (by rw [hs', decide_eq_false h1c]; decide), Int.zero_add] at h
        refine Ev.succ (fun k => ?_) (sgl_inner c hc l len i te hto n (s + 1) (seen.set s.toNat true) m (by omega) (by omega) (by rw [List.length_set]; exact h2) h3 (by omega) h)
        simp only [refcount_Counts_Single.l1]
        rw [if_pos (by omega), if_pos h0, if_pos (by omega), if_neg hs, if_pos (by omega), if_neg h1c, hw]
theorem sgl_step {r : Int} (c : List Int) (hc : c.length ≤ 65536) (pre : List S41) (x : S41) (rest : List S41) (hlen : (pre ++ x :: rest).length ≤ 1000) (hx : okL (c.length : Int) x) (seen : List Bool) (m : Int) (h2 : seen.length = c.length) (h3 : 0 ≤ m) (h4 : m ≤ 100000000)
    (h : Ev (fun k => refcount_Counts_Single.l0 k (setM (fun _ => true) x.f1.toNat x.f2 seen) (m + numP (fun t => !rdOf false seen t && decide (rd c t = 1)) x.f2 x.f1.toNat) (pre ++ x :: rest) ((pre ++ x :: rest).length : Int) ((pre ++ [x]).length : Int) c) r) :
    Ev (fun k => refcount_Counts_Single.l0 k seen m (pre ++ x :: rest) ((pre ++ x :: rest).length : Int) (pre.length : Int) c) r := by
  unfold okL at hx
  have hmn : mn x.f2 (c.length : Int) = x.f2 := by unfold mn; rw [if_neg (by omega)]
  have hmn2 : mn (c.length : Int) (x.f2 + x.f1) = x.f2 + x.f1 := by unfold mn; split <;> omega
  have hmx : mx x.f2 0 = x.f2 := by unfold mx; rw [if_neg (by omega)]
  refine Ev.succ (g := fun k => refcount_Counts_Single.j1 k seen m (c.length : Int) (pre ++ x :: rest) ((pre ++ x :: rest).length : Int) (pre.length : Int) true c x.f0 x.f1 x.f2) (fun k => ?_) ?_
  · simp only [refcount_Counts_Single.l0]
    rw [if_pos (len_mid pre x rest), if_pos (by omega), if_pos (len_mid pre x rest), rd_mid, if_neg (by omega), hmn, w64 (n := (c.length : Int) - x.f2) (by omega) (by omega), decide_eq_true (by omega)]
  refine Ev.succ (g := fun k => refcount_Counts_Single.j2 k seen m (x.f2 + x.f1) (pre ++ x :: rest) ((pre ++ x :: rest).length : Int) (pre.length : Int) c x.f0 x.f1 x.f2) (fun k => ?_) ?_
  · simp only [refcount_Counts_Single.j1]
    rw [if_pos trivial, w64 (n := x.f2 + x.f1) (by omega) (by omega), hmn2]
  refine Ev.succ (g := fun k => refcount_Counts_Single.j3 k seen m (x.f2 + x.f1) (pre ++ x :: rest) ((pre ++ x :: rest).length : Int) (pre.length : Int) c x.f0 x.f1 x.f2) (fun k => ?_) ?_
  · simp only [refcount_Counts_Single.j2]
    rw [if_neg (by omega)]
  refine Ev.succ (g := fun k => refcount_Counts_Single.l1 k seen m (x.f2 + x.f1) x.f2 (pre ++ x :: rest) ((pre ++ x :: rest).length : Int) (pre.length : Int) c) (fun k => ?_) ?_
  · simp only [refcount_Counts_Single.j3]
    rw [hmx]
  refine sgl_inner c hc _ _ _ _ (by omega) x.f1.toNat x.f2 seen m (by omega) (by omega) h2 h3 (by omega) ?_
  rw [next_mid pre x rest (by omega)]
  exact h
theorem sgl_two (c : List Int) (hc : c.length ≤ 65536) (x y : S41) (hx : okL (c.length : Int) x) (hy : okL (c.length : Int) y) :
    Ev (fun k => refcount_Counts_Single.f k c [x, y]) (numP (fun t => inI x.f2 x.f1 t && decide (rd c t = 1)) 0 c.length + numP (fun t => inI y.f2 y.f1 t && (!inI x.f2 x.f1 t && decide (rd c t = 1))) 0 c.length) := by
  have hX := hx
  have hY := hy
  unfold okL at hX hY
  have e1 : numP (fun t => inI x.f2 x.f1 t && decide (rd c t = 1)) 0 c.length = numP (fun t => decide (rd c t = 1)) x.f2 x.f1.toNat := by
    have h := numP_sub (fun t => decide (rd c t = 1)) x.f2 x.f1.toNat c.length (by omega) (by omega)
    rw [show ((x.f1.toNat : Nat) : Int) = x.f1 by omega] at h
    exact h
  have e2 : numP (fun t => inI y.f2 y.f1 t && (!inI x.f2 x.f1 t && decide (rd c t = 1))) 0 c.length = numP (fun t => !inI x.f2 x.f1 t && decide (rd c t = 1)) y.f2 y.f1.toNat := by
    have h := numP_sub (fun t => !inI x.f2 x.f1 t && decide (rd c t = 1)) y.f2 y.f1.toNat c.length (by omega) (by omega)
    rw [show ((y.f1.toNat : Nat) : Int) = y.f1 by omega] at h
    exact h
  have b1 := numP_bound (fun t => decide (rd c t = 1)) x.f1.toNat x.f2
  rw [e1, e2]
  have hrep : ∀ t, rdOf false (List.replicate c.length false) t = false := fun t => by
    unfold rdOf
    rw [List.getD_eq_getElem?_getD]
    by_cases h : t.toNat < c.length
    · simp [h]
    · simp [h]
  have hf : ∀ k, refcount_Counts_Single.f k c [x, y] = refcount_Counts_Single.l0 k (List.replicate c.length false) 0 ([] ++ x :: [y]) (([] ++ x :: [y]).length : Int) (([] : List S41).length : Int) c := fun k => by
    unfold refcount_Counts_Single.f
    rw [if_pos (by omega), if_pos (by omega)]
    rfl
  refine Ev.same hf (sgl_step c hc [] x [y] (by simp) hx _ 0 (by simp) (by omega) (by omega) ?_)
  have q1 : numP (fun t => !rdOf false (List.replicate c.length false) t && decide (rd c t = 1)) x.f2 x.f1.toNat = numP (fun t => decide (rd c t = 1)) x.f2 x.f1.toNat := numP_congr fun t _ _ => by
    show (!rdOf false (List.replicate c.length false) t && decide (rd c t = 1)) = _
    rw [hrep]
    rfl
  rw [q1, Int.zero_add]
  have hs : ∀ t, 0 ≤ t → rdOf false (setM (fun _ => true) x.f1.toNat x.f2 (List.replicate c.length false)) t = inI x.f2 x.f1 t := fun t ht => by
    rw [setM_get _ _ _ _ _ (by omega) (by rw [List.length_replicate]; omega) ht, hrep]
    unfold inI
    by_cases h : x.f2 ≤ t ∧ t < x.f2 + x.f1
    · rw [if_pos (by omega), decide_eq_true h]
    · rw [if_neg (by omega), decide_eq_false h]
  refine sgl_step c hc [x] y [] (by simp) hy _ _ (by rw [setM_len, List.length_replicate]) (by omega) (by omega) ?_
  have q2 : numP (fun t => !rdOf false (setM (fun _ => true) x.f1.toNat x.f2 (List.replicate c.length false)) t && decide (rd c t = 1)) y.f2 y.f1.toNat = numP (fun t => !inI x.f2 x.f1 t && decide (rd c t = 1)) y.f2 y.f1.toNat := numP_congr fun t h1 _ => by
    show (!rdOf false _ t && decide (rd c t = 1)) = _
    rw [hs t (by omega)]
  rw [q2]
  refine Ev.succ (g := fun _ => some _) (fun k => ?_) (Ev.now fun _ => rfl)
  simp only [refcount_Counts_Single.l0]
  rw [if_neg (by simp)]
end Go.Proofs.Ytnloofhpdlggnaa.PRefcountLarge
