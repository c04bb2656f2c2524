/- Numbers: the sum of counts, the number of slots of which something holds, the lengths of runs. -/
import Derived.Test.YtnloofhpdlggnaaRef4RefcountLarge
namespace Go.Proofs.Ytnloofhpdlggnaa.PRefcountLarge
open Go.RowKit Go.Proofs.YtnloofhpdlggnaaW.PrintWords
/-- The sum of the lengths. -/
def lenS : List S41 → Int
  | [] => 0
  | x :: l => x.f1 + lenS l
theorem sum_set : ∀ (c : List Int) (i : Nat) (v : Int), i < c.length → (c.set i v).sum = c.sum - c.getD i 0 + v
  | [], i, v, h => absurd h (by simp)
  | x :: c, 0, v, _ => by simp; omega
  | x :: c, i + 1, v, h => by
    have := sum_set c i v (by simpa using h)
    simp only [List.set_cons_succ, List.sum_cons, List.getD_cons_succ, this]
    omega
theorem sum_addN : ∀ (n : Nat) (s : Int) (c : List Int), 0 ≤ s → s + n ≤ c.length → (∀ u : Int, s ≤ u → u < c.length → -4000000000000000000 ≤ rd c u + 1 ∧ rd c u + 1 ≤ 4000000000000000000) → (addN 1 n s c).sum = c.sum + n
  | 0, s, c, _, _, _ => by simp [addN]
  | n + 1, s, c, h0, h1, h2 => by
    have hb := h2 s (Int.le_refl _) (by omega)
    have hw : wrap64 (rd c s + 1) = rd c s + 1 := w64 (by omega) (by omega)
    rw [addN, sum_addN n (s + 1) _ (by omega) (by rw [List.length_set]; omega) (fun u h4 h5 => by rw [List.length_set] at h5; rw [rd_set c s u _ h0 (by omega) (by omega), if_neg (by omega)]; exact h2 u (by omega) h5), sum_set c s.toNat _ (by omega), hw]
    have : c.getD s.toNat 0 = rd c s := rfl
    rw [this]
    omega
theorem sum_chg : ∀ (l : List S41) (c : List Int) (lo hi : Int), Bd lo hi c → -1000000000000000000 ≤ lo - l.length → hi + l.length ≤ 1000000000000000000 → (∀ x ∈ l, okL (c.length : Int) x) → (chg 1 l c).sum = c.sum + lenS l
  | [], c, _, _, _, _, _, _ => by show c.sum = c.sum + 0; omega
  | x :: l, c, lo, hi, hb, h1, h2, hok => by
    have hx := hok x List.mem_cons_self
    unfold okL at hx
    rw [List.length_cons] at h1 h2
    have hget := fun u hu => addN_get (d := 1) x.f1.toNat x.f2 c u (by omega) (by omega) (fun v hv hv' => by have := hb v (by omega) hv'; omega) hu
    have hbd : Bd (lo - 1) (hi + 1) (addN 1 x.f1.toNat x.f2 c) := fun u hu hu' => by
      rw [addN_len] at hu'
      rw [hget u hu]
      have := hb u hu hu'
      split <;> omega
    have ih := sum_chg l (addN 1 x.f1.toNat x.f2 c) (lo - 1) (hi + 1) hbd (by omega) (by omega) (fun y hy => by rw [addN_len]; exact hok y (List.mem_cons_of_mem _ hy))
    have he : chg 1 (x :: l) c = chg 1 l (addN 1 x.f1.toNat x.f2 c) := rfl
    rw [he, ih, sum_addN x.f1.toNat x.f2 c (by omega) (by omega) (fun v hv hv' => by have := hb v (by omega) hv'; omega), lenS]
    omega
theorem fold_total {B : Int} (hB : 0 ≤ B) (hB2 : B ≤ 1000000000) : ∀ (c : List Int) (a : Int), (∀ x ∈ c, 0 ≤ x ∧ x ≤ B) → 0 ≤ a → a + 1000000000 * c.length ≤ 1000000000000000000 → c.foldl stpTotal a = a + c.sum
  | [], a, _, _, _ => by simp
  | x :: c, a, h, h0, h1 => by
    have hx := h x List.mem_cons_self
    rw [List.length_cons] at h1
    have hs : stpTotal a x = a + x := w64 (by omega) (by omega)
    rw [List.foldl_cons, hs, fold_total hB hB2 c (a + x) (fun y hy => h y (List.mem_cons_of_mem _ hy)) (by omega) (by omega), List.sum_cons]
    omega
theorem sum_bound {B : Int} (hB : 0 ≤ B) : ∀ (c : List Int), (∀ x ∈ c, 0 ≤ x ∧ x ≤ B) → 0 ≤ c.sum ∧ c.sum ≤ B * c.length
  | [], _ => by simp
  | x :: c, h => by
    have hx := h x List.mem_cons_self
    have ih := sum_bound hB c fun y hy => h y (List.mem_cons_of_mem _ hy)
    rw [List.sum_cons, List.length_cons]
    have : B * ((c.length + 1 : Nat) : Int) = B * c.length + B := by rw [Int.natCast_add]; simp [Int.mul_add]
    omega
theorem total_eq {B : Int} {c : List Int} (hI : Inv B c) (h0 : 0 ≤ B) (hB : B ≤ 1000000000) : refcount_Counts_Total.f c = some c.sum := by
  have hc := hI.1
  rw [code_Total c (by omega), fold_total h0 hB c 0 hI.nonneg (by omega) (by omega)]
  simp
/-- How many of the n slots from s on are such that P. -/
def numP (P : Int → Bool) : Int → Nat → Int
  | _, 0 => 0
  | s, n + 1 => (if P s = true then 1 else 0) + numP P (s + 1) n
theorem numP_congr {P Q : Int → Bool} : ∀ {n : Nat} {s : Int}, (∀ t, s ≤ t → t < s + n → P t = Q t) → numP P s n = numP Q s n
  | 0, _, _ => rfl
  | n + 1, s, h => by rw [numP, numP, h s (Int.le_refl _) (by omega), numP_congr fun t h1 h2 => h t (by omega) (by omega)]
theorem numP_add (P : Int → Bool) (b : Nat) : ∀ (a : Nat) (s : Int), numP P s (a + b) = numP P s a + numP P (s + a) b
  | 0, s => by
    have e : s + ((0 : Nat) : Int) = s := by omega
    rw [Nat.zero_add, numP, e]
    omega
  | a + 1, s => by
    have e : s + ((a + 1 : Nat) : Int) = s + 1 + (a : Int) := by omega
    rw [show a + 1 + b = (a + b) + 1 by omega, numP, numP, numP_add P b a (s + 1), e]
    omega
theorem numP_true {P : Int → Bool} : ∀ {n : Nat} {s : Int}, (∀ t, s ≤ t → t < s + n → P t = true) → numP P s n = n
  | 0, _, _ => rfl
  | n + 1, s, h => by
    rw [numP, if_pos (h s (Int.le_refl _) (by omega)), numP_true fun t h1 h2 => h t (by omega) (by omega)]
    omega
theorem numP_false {P : Int → Bool} : ∀ {n : Nat} {s : Int}, (∀ t, s ≤ t → t < s + n → P t = false) → numP P s n = 0
  | 0, _, _ => rfl
  | n + 1, s, h => by
    rw [numP, if_neg (by rw [h s (Int.le_refl _) (by omega)]; decide), numP_false fun t h1 h2 => h t (by omega) (by omega)]
    omega
theorem numP_bound (P : Int → Bool) : ∀ (n : Nat) (s : Int), 0 ≤ numP P s n ∧ numP P s n ≤ n
  | 0, _ => by simp [numP]
  | n + 1, s => by
    have := numP_bound P n (s + 1)
    rw [numP]
    split <;> omega
theorem numP_not (P : Int → Bool) : ∀ (n : Nat) (s : Int), numP P s n + numP (fun t => !P t) s n = n
  | 0, _ => rfl
  | n + 1, s => by
    have := numP_not P n (s + 1)
    rw [numP, numP]
    by_cases h : P s = true
    · rw [if_pos h, if_neg (by rw [h]; decide)]
      omega
    · rw [if_neg h, if_pos (by rw [Bool.eq_false_iff.2 h]; rfl)]
      omega
def covB (R : List S41) (t : Int) : Bool := R.any fun x => decide (x.f2 ≤ t ∧ t < x.f2 + x.f1)
theorem covB_iff {R : List S41} {t : Int} : covB R t = true ↔ Cov R t := by
  unfold covB Cov
  rw [List.any_eq_true]
  constructor
  · rintro ⟨x, hx, h⟩
    exact ⟨x, hx, of_decide_eq_true h⟩
  · rintro ⟨x, hx, h⟩
    exact ⟨x, hx, decide_eq_true h⟩
theorem ro_lenS : ∀ (R : List S41) (c s : Int) (n : Nat), RO c R → (∀ t, Cov R t → s ≤ t ∧ t < s + n) → lenS R = numP (covB R) s n
  | [], _, s, n, _, _ => (numP_false fun t _ _ => rfl).symm
  | x :: R, c, s, n, hr, hc => by
    obtain ⟨h0, h1, h2, h3⟩ := hr
    have ha := hc x.f2 ((cov_cons _ _ _).2 (.inl ⟨by omega, by omega⟩))
    have hb := hc (x.f2 + x.f1 - 1) ((cov_cons _ _ _).2 (.inl ⟨by omega, by omega⟩))
    have hlt := fun t (ht : Cov R t) => h3.lt ht
    have ih := ro_lenS R (x.f2 + x.f1) (x.f2 + x.f1) (n - (x.f2 - s).toNat - x.f1.toNat) h3 fun t ht => by
      have h4 := hc t ((cov_cons _ _ _).2 (.inr ht))
      have h5 := hlt t ht
      omega
    have hn : n = (x.f2 - s).toNat + (x.f1.toNat + (n - (x.f2 - s).toNat - x.f1.toNat)) := by omega
    rw [hn, numP_add, numP_add, numP_false (n := (x.f2 - s).toNat), numP_true (n := x.f1.toNat), lenS, ih]
    · have e : s + ((x.f2 - s).toNat : Int) + (x.f1.toNat : Int) = x.f2 + x.f1 := by omega
      rw [e]
      have : numP (covB (x :: R)) (x.f2 + x.f1) (n - (x.f2 - s).toNat - x.f1.toNat) = numP (covB R) (x.f2 + x.f1) (n - (x.f2 - s).toNat - x.f1.toNat) := numP_congr fun t h4 _ => by
        have hf : decide (x.f2 ≤ t ∧ t < x.f2 + x.f1) = false := decide_eq_false (by omega)
        show (decide (x.f2 ≤ t ∧ t < x.f2 + x.f1) || covB R t) = covB R t
        rw [hf, Bool.false_or]
      rw [this]
      omega
    · intro t h4 h5
      exact covB_iff.2 ((cov_cons _ _ _).2 (.inl ⟨by omega, by omega⟩))
    · intro t h4 h5
      rw [Bool.eq_false_iff]
      intro h
      rcases (cov_cons _ _ _).1 (covB_iff.1 h) with h6 | h6
      · omega
      · have := hlt t h6
        omega
theorem runs_len {P : Int → Prop} {R : List S41} (h : IsRuns P R) (p : Int → Bool) (n : Nat) (hp : ∀ t, P t ↔ 0 ≤ t ∧ t < n ∧ p t = true) : lenS R = numP p 0 n := by
  rw [ro_lenS R (-1) 0 n h.1 fun t ht => by have := (hp t).1 ((h.2.2 t).1 ht); omega]
  refine numP_congr fun t h1 h2 => ?_
  rw [Bool.eq_iff_iff, covB_iff, h.2.2 t, hp t]
  exact ⟨fun h => h.2.2, fun h => ⟨h1, by omega, h⟩⟩
theorem fold_used : ∀ (rest pre : List Int) (acc : Int), (∀ x ∈ rest, 0 ≤ x) → 0 ≤ acc → acc + rest.length ≤ 2000000000 → rest.foldl stpUsed acc = acc + numP (fun t => !decide (rd (pre ++ rest) t = 0)) (pre.length : Int) rest.length
  | [], pre, acc, _, _, _ => by simp [numP]
  | x :: rest, pre, acc, h, h0, h1 => by
    have hx := h x List.mem_cons_self
    rw [List.length_cons] at h1
    have hs : stpUsed acc x = acc + if (!decide (x = 0)) = true then 1 else 0 := by
      unfold stpUsed mn
      by_cases hp : x = 0
      · subst hp
        rw [if_neg (by omega), if_neg (by decide), w64 (by omega) (by omega)]
      · have e : (if (!decide (x = 0)) = true then (1 : Int) else 0) = 1 := by rw [decide_eq_false hp]; rfl
        rw [e]
        by_cases hq : 1 < x
        · rw [if_pos hq, w64 (by omega) (by omega)]
        · rw [if_neg hq, w64 (by omega) (by omega)]
          omega
    have ih := fold_used rest (pre ++ [x]) (stpUsed acc x) (fun y hy => h y (List.mem_cons_of_mem _ hy)) (by rw [hs]; split <;> omega) (by rw [hs]; split <;> omega)
    rw [List.append_assoc, List.singleton_append] at ih
    have e : ((pre ++ [x]).length : Int) = (pre.length : Int) + 1 := by simp
    rw [List.foldl_cons, ih, hs, List.length_cons, numP, ri_mid, e]
    omega
theorem used_eq {B : Int} {c : List Int} (hI : Inv B c) : refcount_Counts_Used.f c = some (numP (fun t => !decide (rd c t = 0)) 0 c.length) := by
  have hc := hI.1
  have := fold_used c [] 0 (fun x hx => (hI.nonneg x hx).1) (by omega) (by omega)
  rw [code_Used c (by omega), this]
  simp
theorem zero_len {c : List Int} {R : List S41} (h : IsRuns (fun t => 0 ≤ t ∧ t < c.length ∧ rd c t = 0) R) : lenS R = numP (fun t => decide (rd c t = 0)) 0 c.length :=
  runs_len h _ _ fun t => by simp
end Go.Proofs.Ytnloofhpdlggnaa.PRefcountLarge
