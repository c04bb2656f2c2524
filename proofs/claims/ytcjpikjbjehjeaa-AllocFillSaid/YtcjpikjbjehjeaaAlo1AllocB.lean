/- Numbers of slots, and pieces of lists of runs: sizes, clip, without. -/
import Derived.Test.YtcjpikjbjehjeaaRunsTAllocB
namespace Go.Proofs.Ytcjpikjbjehjeaa.PAllocB
open Go.RowKit Go.Proofs.YtcjpikjbjehjeaaW.PrintWords
set_option linter.unusedVariables false
set_option linter.unusedSimpArgs false
theorem Ev.uniq {α : Type} {f : Nat → Option α} {r r' : α} (h : Ev f r) (h' : Ev f r') : r = r' := by
  obtain ⟨k0, h⟩ := h
  obtain ⟨k1, h'⟩ := h'
  exact Option.some.inj ((h (k0 + k1) (by omega)).symm.trans (h' (k0 + k1) (by omega)))
theorem IsRuns.of {P Q : Int → Prop} {R : List S53} (h : IsRuns P R) (hpq : ∀ t, P t ↔ Q t) : IsRuns Q R := ⟨h.1, h.2.1, fun t => (h.2.2 t).trans (hpq t)⟩
/-- The sum of the lengths. -/
def lenS : List S53 → Int
  | [] => 0
  | x :: l => x.f1 + lenS l
/-- How many of the n slots from s on are such that P. -/
def numP (P : Int → Bool) : Int → Nat → Int
  | _, 0 => 0
  | s, n + 1 => (if P s = true then 1 else 0) + numP P (s + 1) n
theorem numP_congr {P Q : Int → Bool} : ∀ {n : Nat} {s : Int}, (∀ t, s ≤ t → t < s + n → P t = Q t) → numP P s n = numP Q s n
  | 0, _, _ => rfl
  | n + 1, s, h => by rw [numP, numP, h s (Int.le_refl _) (by omega), numP_congr fun t h1 h2 => h t (by omega) (by omega)]
theorem numP_add (P : Int → Bool) (b : Nat) : ∀ (a : Nat) (s : Int), numP P s (a + b) = numP P s a + numP P (s + a) b
  | 0, s => by
    have e : s + ((0 : Nat) : Int) = s := by omega
    rw [Nat.zero_add, numP, e]
    omega
  | a + 1, s => by
    have e : s + ((a + 1 : Nat) : Int) = s + 1 + (a : Int) := by omega
    rw [show a + 1 + b = (a + b) + 1 by omega, numP, numP, numP_add P b a (s + 1), e]
    omega
theorem numP_true {P : Int → Bool} : ∀ {n : Nat} {s : Int}, (∀ t, s ≤ t → t < s + n → P t = true) → numP P s n = n
  | 0, _, _ => rfl
  | n + 1, s, h => by
    rw [numP, if_pos (h s (Int.le_refl _) (by omega)), numP_true fun t h1 h2 => h t (by omega) (by omega)]
    omega
theorem numP_false {P : Int → Bool} : ∀ {n : Nat} {s : Int}, (∀ t, s ≤ t → t < s + n → P t = false) → numP P s n = 0
  | 0, _, _ => rfl
  | n + 1, s, h => by
    rw [numP, if_neg (by rw [h s (Int.le_refl _) (by omega)]; decide), numP_false fun t h1 h2 => h t (by omega) (by omega)]
    omega
theorem numP_bound (P : Int → Bool) : ∀ (n : Nat) (s : Int), 0 ≤ numP P s n ∧ numP P s n ≤ n
  | 0, _ => by simp [numP]
  | n + 1, s => by
    have := numP_bound P n (s + 1)
    rw [numP]
    split <;> omega
theorem numP_not (P : Int → Bool) : ∀ (n : Nat) (s : Int), numP P s n + numP (fun t => !P t) s n = n
  | 0, _ => rfl
  | n + 1, s => by
    have := numP_not P n (s + 1)
    rw [numP, numP]
    by_cases h : P s = true
    · rw [if_pos h, if_neg (by rw [h]; decide)]
      omega
    · rw [if_neg h, if_pos (by rw [Bool.eq_false_iff.2 h]; rfl)]
      omega
def covB (R : List S53) (t : Int) : Bool := R.any fun x => decide (x.f2 ≤ t ∧ t < x.f2 + x.f1)
theorem covB_iff {R : List S53} {t : Int} : covB R t = true ↔ Cov R t := by
  unfold covB Cov
  rw [List.any_eq_true]
  constructor
  · rintro ⟨x, hx, h⟩
    exact ⟨x, hx, of_decide_eq_true h⟩
  · rintro ⟨x, hx, h⟩
    exact ⟨x, hx, decide_eq_true h⟩
theorem ro_lenS : ∀ (R : List S53) (c s : Int) (n : Nat), RO c R → (∀ t, Cov R t → s ≤ t ∧ t < s + n) → lenS R = numP (covB R) s n
  | [], _, s, n, _, _ => (numP_false fun t _ _ => rfl).symm
  | x :: R, c, s, n, hr, hc => by
    obtain ⟨h0, h1, h2, h3⟩ := hr
    have ha := hc x.f2 ((cov_cons _ _ _).2 (.inl ⟨by omega, by omega⟩))
    have hb := hc (x.f2 + x.f1 - 1) ((cov_cons _ _ _).2 (.inl ⟨by omega, by omega⟩))
    have hlt := fun t (ht : Cov R t) => h3.lt ht
    have ih := ro_lenS R (x.f2 + x.f1) (x.f2 + x.f1) (n - (x.f2 - s).toNat - x.f1.toNat) h3 fun t ht => by
      have h4 := hc t ((cov_cons _ _ _).2 (.inr ht))
      have h5 := hlt t ht
      omega
    have hn : n = (x.f2 - s).toNat + (x.f1.toNat + (n - (x.f2 - s).toNat - x.f1.toNat)) := by omega
    rw [hn, numP_add, numP_add, numP_false (n := (x.f2 - s).toNat), numP_true (n := x.f1.toNat), lenS, ih]
    · have e : s + ((x.f2 - s).toNat : Int) + (x.f1.toNat : Int) = x.f2 + x.f1 := by omega
      rw [e]
      have : numP (covB (x :: R)) (x.f2 + x.f1) (n - (x.f2 - s).toNat - x.f1.toNat) = numP (covB R) (x.f2 + x.f1) (n - (x.f2 - s).toNat - x.f1.toNat) := numP_congr fun t h4 _ => by
        have hf : decide (x.f2 ≤ t ∧ t < x.f2 + x.f1) = false := decide_eq_false (by omega)
        show (decide (x.f2 ≤ t ∧ t < x.f2 + x.f1) || covB R t) = covB R t
        rw [hf, Bool.false_or]
      rw [this]
      omega
    · intro t h4 h5
      exact covB_iff.2 ((cov_cons _ _ _).2 (.inl ⟨by omega, by omega⟩))
    · intro t h4 h5
      rw [Bool.eq_false_iff]
      intro h
      rcases (cov_cons _ _ _).1 (covB_iff.1 h) with h6 | h6
      · omega
      · have := hlt t h6
        omega
theorem runs_len {P : Int → Prop} {R : List S53} (h : IsRuns P R) (p : Int → Bool) (n : Nat) (hp : ∀ t, P t ↔ 0 ≤ t ∧ t < n ∧ p t = true) : lenS R = numP p 0 n := by
  rw [ro_lenS R (-1) 0 n h.1 fun t ht => by have := (hp t).1 ((h.2.2 t).1 ht); omega]
  refine numP_congr fun t h1 h2 => ?_
  rw [Bool.eq_iff_iff, covB_iff, h.2.2 t, hp t]
  exact ⟨fun h => h.2.2, fun h => ⟨h1, by omega, h⟩⟩
theorem numP_lin {P Q R : Int → Bool} : ∀ {n : Nat} {s : Int}, (∀ t, s ≤ t → t < s + n → (if P t = true then (1 : Int) else 0) = (if Q t = true then 1 else 0) + if R t = true then 1 else 0) → numP P s n = numP Q s n + numP R s n
  | 0, _, _ => rfl
  | n + 1, s, h => by
    rw [numP, numP, numP, h s (Int.le_refl _) (by omega), numP_lin fun t h1 h2 => h t (by omega) (by omega)]
    omega
/-- The slots from s on, n of them, as one interval. -/
def inI (s n : Int) (t : Int) : Bool := decide (s ≤ t ∧ t < s + n)
theorem numP_sub (Q : Int → Bool) (s : Int) (n N : Nat) (h0 : 0 ≤ s) (h1 : s + n ≤ N) : numP (fun t => inI s n t && Q t) 0 N = numP Q s n := by
  have hN : N = s.toNat + (n + (N - s.toNat - n)) := by omega
  rw [hN, numP_add, numP_add, numP_false (n := s.toNat), numP_false (n := N - s.toNat - n)]
  · have e : (0 : Int) + (s.toNat : Int) = s := by omega
    rw [e]
    have : numP (fun t => inI s n t && Q t) s n = numP Q s n := numP_congr fun t h2 h3 => by
      show (inI s n t && Q t) = Q t
      unfold inI
      rw [decide_eq_true ⟨h2, h3⟩, Bool.true_and]
    rw [this]
    omega
  · intro t h2 h3
    show (inI s n t && Q t) = false
    unfold inI
    rw [decide_eq_false (by omega), Bool.false_and]
  · intro t h2 h3
    show (inI s n t && Q t) = false
    unfold inI
    rw [decide_eq_false (by omega), Bool.false_and]
theorem numP_inI (s : Int) (n N : Nat) (h0 : 0 ≤ s) (h1 : s + n ≤ N) : numP (inI s n) 0 N = n := by
  have h := numP_sub (fun _ => true) s n N h0 h1
  rw [numP_true fun t _ _ => rfl] at h
  exact (numP_congr fun t _ _ => (Bool.and_true _).symm).trans h
theorem lenS_append : ∀ (l m : List S53), lenS (l ++ m) = lenS l + lenS m
  | [], m => by simp [lenS]
  | x :: l, m => by rw [List.cons_append, lenS, lenS, lenS_append l m, Int.add_assoc]
theorem mn_le {a b : Int} : mn a b = a ∧ a ≤ b ∨ mn a b = b ∧ b ≤ a := by unfold mn; split <;> omega
theorem size_loop : ∀ (rest pre : List S53) (acc : Int), (pre ++ rest).length ≤ 1000000 → (∀ x ∈ rest, 0 ≤ x.f1 ∧ x.f1 ≤ 65536) → 0 ≤ acc → acc + 65536 * rest.length ≤ 1000000000000 →
    Ev (fun k => alloc_size.l0 k acc (pre ++ rest) ((pre ++ rest).length : Int) (pre.length : Int)) (acc + lenS rest)
  | [], pre, acc, _, _, _, _ => by
    refine Ev.succ (g := fun _ => some acc) (fun k => ?_) (Ev.now fun _ => ?_)
    · simp only [alloc_size.l0, List.append_nil]
      rw [if_neg (by omega)]
    · rw [lenS, Int.add_zero]
  | x :: rest, pre, acc, hlen, hx, h0, h1 => by
    obtain ⟨ha, hb⟩ := hx x List.mem_cons_self
    rw [List.length_cons] at h1
    have hnext := next_mid pre x rest (by omega)
    have ih := size_loop rest (pre ++ [x]) (acc + x.f1) (by simpa using hlen) (fun y hy => hx y (List.mem_cons_of_mem _ hy)) (by omega) (by omega)
    rw [List.append_assoc, List.singleton_append] at ih
    rw [lenS, ← Int.add_assoc]
    refine Ev.succ (fun k => ?_) ih
    simp only [alloc_size.l0]
    rw [if_pos (len_mid pre x rest), if_pos (by omega), if_pos (len_mid pre x rest), rd_mid, hnext, w64 (n := acc + x.f1) (by omega) (by omega)]
theorem size_eq (l : List S53) (hl : l.length ≤ 1000000) (hx : ∀ x ∈ l, 0 ≤ x.f1 ∧ x.f1 ≤ 65536) : Ev (fun k => alloc_size.f k l) (lenS l) := by
  have h := size_loop l [] 0 (by simpa using hl) hx (Int.le_refl _) (by omega)
  rw [Int.zero_add] at h
  exact h
theorem rsize_loop : ∀ (rest pre : List S53) (acc : Int), (pre ++ rest).length ≤ 1000000 → (∀ x ∈ rest, 0 ≤ x.f1 ∧ x.f1 ≤ 65536) → 0 ≤ acc → acc + 65536 * rest.length ≤ 1000000000000 →
    Ev (fun k => tegularef35_size.l0 k (pre ++ rest) acc (pre.length : Int)) (acc + lenS rest)
  | [], pre, acc, _, _, _, _ => by
    refine Ev.succ (g := fun _ => some acc) (fun k => ?_) (Ev.now fun _ => ?_)
    · simp only [tegularef35_size.l0, List.append_nil]
      rw [if_neg (by omega)]
    · rw [lenS, Int.add_zero]
  | x :: rest, pre, acc, hlen, hx, h0, h1 => by
    obtain ⟨ha, hb⟩ := hx x List.mem_cons_self
    rw [List.length_cons] at h1
    have hnext := next_mid pre x rest (by omega)
    have ih := rsize_loop rest (pre ++ [x]) (acc + x.f1) (by simpa using hlen) (fun y hy => hx y (List.mem_cons_of_mem _ hy)) (by omega) (by omega)
    rw [List.append_assoc, List.singleton_append] at ih
    rw [lenS, ← Int.add_assoc]
    refine Ev.succ (fun k => ?_) ih
    simp only [tegularef35_size.l0]
    rw [if_pos (len_mid pre x rest), if_pos (by omega), rd_mid, hnext, w64 (n := acc + x.f1) (by omega) (by omega)]
theorem rsize_eq (l : List S53) (hl : l.length ≤ 1000000) (hx : ∀ x ∈ l, 0 ≤ x.f1 ∧ x.f1 ≤ 65536) : Ev (fun k => tegularef35_size.f k l) (lenS l) := by
  have h := rsize_loop l [] 0 (by simpa using hl) hx (Int.le_refl _) (by omega)
  rw [Int.zero_add] at h
  exact h
/-- The part of a run from a slot on, and the part before it. -/
def fr1 (a : Int) (x : S53) : List S53 := if a < x.f2 + x.f1 then [⟨0, x.f2 + x.f1 - mx x.f2 a, mx x.f2 a⟩] else []
def bf1 (a : Int) (x : S53) : List S53 := if x.f2 < a then [⟨0, mn (x.f2 + x.f1) a - x.f2, x.f2⟩] else []
def frm (a : Int) : List S53 → List S53
  | [] => []
  | x :: l => fr1 a x ++ frm a l
def bef (a : Int) : List S53 → List S53
  | [] => []
  | x :: l => bf1 a x ++ bef a l
theorem fr1_len (a : Int) (x : S53) : (fr1 a x).length ≤ 1 := by unfold fr1; split <;> simp
theorem bf1_len (a : Int) (x : S53) : (bf1 a x).length ≤ 1 := by unfold bf1; split <;> simp
theorem clip_loop (a : Int) (a0 : 0 ≤ a) (a1 : a ≤ 1000000) : ∀ (rest pre F B : List S53), (pre ++ rest).length ≤ 1000000 → F.length + rest.length ≤ 2000000 → B.length + rest.length ≤ 2000000 → (∀ x ∈ rest, OkS x) →
    Ev (fun k => alloc_clip.l0 k a F B (pre ++ rest) ((pre ++ rest).length : Int) (pre.length : Int)) (F ++ frm a rest, B ++ bef a rest)
  | [], pre, F, B, _, _, _, _ => by
    refine Ev.succ (g := fun _ => some (F, B)) (fun k => ?_) (Ev.now fun _ => ?_)
    · simp only [alloc_clip.l0, List.append_nil]
      rw [if_neg (by omega)]
    · rw [frm, bef, List.append_nil, List.append_nil]
  | x :: rest, pre, F, B, hlen, hF, hB, hx => by
    obtain ⟨h0, h1, h2⟩ := hx x List.mem_cons_self
    have hnext := next_mid pre x rest (by omega)
    have lf := fr1_len a x
    have lb := bf1_len a x
    rw [List.length_cons] at hF hB
    have ih := clip_loop a a0 a1 rest (pre ++ [x]) (F ++ fr1 a x) (B ++ bf1 a x) (by simpa using hlen) (by rw [List.length_append]; omega) (by rw [List.length_append]; omega) (fun y hy => hx y (List.mem_cons_of_mem _ hy))
    rw [List.append_assoc, List.singleton_append, List.append_assoc, List.append_assoc] at ih
    rw [frm, bef]
    refine Ev.succ (g := fun k => alloc_clip.j1 k a F (B ++ bf1 a x) (pre ++ x :: rest) ((pre ++ x :: rest).length : Int) (pre.length : Int) x.f0 x.f1 x.f2) (fun k => ?_) (Ev.succ (fun k => ?_) ih)
    · simp only [alloc_clip.l0]
      rw [if_pos (len_mid pre x rest), if_pos (by omega), if_pos (len_mid pre x rest), rd_mid]
      unfold bf1
      by_cases h : x.f2 < a
      · rw [if_pos h, if_pos h]
        have := @mn_le (x.f2 + x.f1) a
        simp only [alloc_end.f, alloc_run.f, Option.bind_some]
        rw [w64 (n := x.f2 + x.f1) (by omega) (by omega), w64 (n := mn (x.f2 + x.f1) a - x.f2) (by omega) (by omega), if_pos (by omega)]
      · rw [if_neg h, if_neg h, List.append_nil]
    · simp only [alloc_clip.j1, alloc_end.f, alloc_run.f, Option.bind_some]
      rw [w64 (n := x.f2 + x.f1) (by omega) (by omega), hnext]
      unfold fr1
      by_cases h : a < x.f2 + x.f1
      · rw [if_pos h, if_pos h]
        have := @mx_le x.f2 a
        rw [w64 (n := x.f2 + x.f1 - mx x.f2 a) (by omega) (by omega), if_pos (by omega)]
      · rw [if_neg h, if_neg h, List.append_nil]
theorem clip_eq (a : Int) (a0 : 0 ≤ a) (a1 : a ≤ 1000000) (l : List S53) (hl : l.length ≤ 1000000) (hx : ∀ x ∈ l, OkS x) : Ev (fun k => alloc_clip.f k l a) (frm a l, bef a l) :=
  clip_loop a a0 a1 l [] [] [] (by simpa using hl) (by simp; omega) (by simp; omega) hx
theorem RO.mono {l : List S53} {c d : Int} (h : RO d l) (hc : c ≤ d) : RO c l := by
  cases l with
  | nil => trivial
  | cons x l => exact ⟨h.1, by have := h.2.1; omega, h.2.2⟩
theorem ro_length {B : Int} : ∀ {l : List S53} {c : Int}, RO c l → (∀ x ∈ l, x.f2 + x.f1 ≤ B) → c ≤ B → (l.length : Int) ≤ B - c
  | [], c, _, _, h => by simp; omega
  | x :: l, c, ⟨_, h1, h2, h3⟩, hb, _ => by
    have hx := hb x List.mem_cons_self
    have := ro_length h3 (fun y hy => hb y (List.mem_cons_of_mem _ hy)) hx
    rw [List.length_cons]
    omega
theorem ro_len {l : List S53} (h : RO (-1) l) (ho : ∀ x ∈ l, OkS x) : l.length ≤ 65537 := by
  have := ro_length (B := 65536) h (fun x hx => (ho x hx).2.2) (by omega)
  omega
theorem ro_append : ∀ {l m : List S53} {c d : Int}, RO c l → RO d m → rEnd c l ≤ d → RO c (l ++ m)
  | [], _, _, _, _, h2, h3 => h2.mono h3
  | x :: l, _, _, _, ⟨h0, h1, h2, h3⟩, h4, h5 => ⟨h0, h1, h2, ro_append h3 h4 h5⟩
theorem frm_ro (a : Int) : ∀ {l : List S53} {c : Int}, RO c l → RO c (frm a l)
  | [], _, _ => trivial
  | x :: l, c, ⟨h0, h1, h2, h3⟩ => by
    have ih := frm_ro a h3
    rw [frm, fr1]
    split
    · have := @mx_le x.f2 a
      refine ⟨rfl, by show c < mx x.f2 a; omega, by show 1 ≤ x.f2 + x.f1 - mx x.f2 a; omega, ?_⟩
      show RO (mx x.f2 a + (x.f2 + x.f1 - mx x.f2 a)) _
      rw [show mx x.f2 a + (x.f2 + x.f1 - mx x.f2 a) = x.f2 + x.f1 by omega]
      exact ih
    · exact ih.mono (by omega)
theorem frm_ro' (a : Int) : ∀ {l : List S53} {c : Int}, RO c l → RO (a - 1) (frm a l)
  | [], _, _ => trivial
  | x :: l, c, ⟨h0, h1, h2, h3⟩ => by
    have ih := frm_ro a h3
    have ih' := frm_ro' a h3
    rw [frm, fr1]
    split
    · have := @mx_le x.f2 a
      refine ⟨rfl, by show a - 1 < mx x.f2 a; omega, by show 1 ≤ x.f2 + x.f1 - mx x.f2 a; omega, ?_⟩
      show RO (mx x.f2 a + (x.f2 + x.f1 - mx x.f2 a)) _
      rw [show mx x.f2 a + (x.f2 + x.f1 - mx x.f2 a) = x.f2 + x.f1 by omega]
      exact ih
    · exact ih'
theorem bef_ro (a : Int) : ∀ {l : List S53} {c : Int}, RO c l → RO c (bef a l)
  | [], _, _ => trivial
  | x :: l, c, ⟨h0, h1, h2, h3⟩ => by
    have ih := bef_ro a h3
    rw [bef, bf1]
    split
    · have := @mn_le (x.f2 + x.f1) a
      refine ⟨rfl, h1, by show 1 ≤ mn (x.f2 + x.f1) a - x.f2; omega, ?_⟩
      show RO (x.f2 + (mn (x.f2 + x.f1) a - x.f2)) _
      exact ih.mono (by omega)
    · exact ih.mono (by omega)
theorem frm_ok {a : Int} (h0 : 0 ≤ a) : ∀ {l : List S53}, (∀ x ∈ l, OkS x) → ∀ y ∈ frm a l, OkS y
  | [], _, y, hy => by cases hy
  | x :: l, h, y, hy => by
    rw [frm] at hy
    rcases List.mem_append.1 hy with hy | hy
    · unfold fr1 at hy
      split at hy
      · have := @mx_le x.f2 a
        obtain ⟨h1, h2, h3⟩ := h x List.mem_cons_self
        rw [List.mem_singleton.1 hy]
        exact ⟨by show 0 ≤ mx x.f2 a; omega, by show 1 ≤ x.f2 + x.f1 - mx x.f2 a; omega, by show mx x.f2 a + (x.f2 + x.f1 - mx x.f2 a) ≤ 65536; omega⟩
      · cases hy
    · exact frm_ok h0 (fun z hz => h z (List.mem_cons_of_mem _ hz)) y hy
theorem bef_ok {a : Int} : ∀ {l : List S53}, (∀ x ∈ l, OkS x) → ∀ y ∈ bef a l, OkS y ∧ y.f2 + y.f1 ≤ a
  | [], _, y, hy => by cases hy
  | x :: l, h, y, hy => by
    rw [bef] at hy
    rcases List.mem_append.1 hy with hy | hy
    · unfold bf1 at hy
      split at hy
      · have := @mn_le (x.f2 + x.f1) a
        obtain ⟨h1, h2, h3⟩ := h x List.mem_cons_self
        rw [List.mem_singleton.1 hy]
        exact ⟨⟨h1, by show 1 ≤ mn (x.f2 + x.f1) a - x.f2; omega, by show x.f2 + (mn (x.f2 + x.f1) a - x.f2) ≤ 65536; omega⟩, by show x.f2 + (mn (x.f2 + x.f1) a - x.f2) ≤ a; omega⟩
      · cases hy
    · exact bef_ok (fun z hz => h z (List.mem_cons_of_mem _ hz)) y hy
theorem cov_one (x : S53) (t : Int) : Cov [x] t ↔ x.f2 ≤ t ∧ t < x.f2 + x.f1 := by
  rw [cov_cons]
  exact ⟨fun h => h.elim id (fun h => absurd h (cov_nil _)), .inl⟩
theorem cov_frm (a t : Int) : ∀ (l : List S53), Cov (frm a l) t ↔ Cov l t ∧ a ≤ t
  | [] => ⟨fun h => absurd h (cov_nil _), fun h => h.1⟩
  | x :: l => by
    have := @mx_le x.f2 a
    rw [frm, cov_append, cov_frm a t l, cov_cons, fr1]
    split
    · rw [cov_one]
      constructor
      · rintro (h | h)
        · exact ⟨.inl (by simp only at h; omega), by simp only at h; omega⟩
        · exact ⟨.inr h.1, h.2⟩
      · rintro ⟨h | h, h2⟩
        · exact .inl (by simp only; omega)
        · exact .inr ⟨h, h2⟩
    · constructor
      · rintro (h | h)
        · exact absurd h (cov_nil _)
        · exact ⟨.inr h.1, h.2⟩
      · rintro ⟨h | h, h2⟩
        · omega
        · exact .inr ⟨h, h2⟩
theorem cov_bef (a t : Int) : ∀ (l : List S53), Cov (bef a l) t ↔ Cov l t ∧ t < a
  | [] => ⟨fun h => absurd h (cov_nil _), fun h => h.1⟩
  | x :: l => by
    have := @mn_le (x.f2 + x.f1) a
    rw [bef, cov_append, cov_bef a t l, cov_cons, bf1]
    split
    · rw [cov_one]
      constructor
      · rintro (h | h)
        · exact ⟨.inl (by simp only at h; omega), by simp only at h; omega⟩
        · exact ⟨.inr h.1, h.2⟩
      · rintro ⟨h | h, h2⟩
        · exact .inl (by simp only; omega)
        · exact .inr ⟨h, h2⟩
    · constructor
      · rintro (h | h)
        · exact absurd h (cov_nil _)
        · exact ⟨.inr h.1, h.2⟩
      · rintro ⟨h | h, h2⟩
        · omega
        · exact .inr ⟨h, h2⟩
/-- Runs without one of their parts. -/
def wo1 (l : List S53) (x : S53) : List S53 := bef x.f2 l ++ frm (x.f2 + x.f1) (frm x.f2 l)
theorem wo1_runs {P : Int → Prop} {l : List S53} {x : S53} (h : IsRuns P l) (hx : OkS x) : IsRuns (fun t => P t ∧ ¬ (x.f2 ≤ t ∧ t < x.f2 + x.f1)) (wo1 l x) := by
  obtain ⟨x0, x1, x2⟩ := hx
  obtain ⟨h1, h2, h3⟩ := h
  have hb := @bef_ok x.f2 l h2
  refine ⟨ro_append (bef_ro _ h1) (frm_ro' _ (frm_ro _ h1)) ?_, fun y hy => ?_, fun t => ?_⟩
  · exact rEnd_le_of (by omega) fun y hy => by have := (hb y hy).2; omega
  · rcases List.mem_append.1 hy with hy | hy
    · exact (hb y hy).1
    · exact frm_ok (by omega) (frm_ok (by omega) h2) y hy
  · rw [wo1, cov_append, cov_bef, cov_frm, cov_frm, h3 t]
    constructor
    · rintro (⟨h4, h5⟩ | ⟨⟨h4, h5⟩, h6⟩)
      · exact ⟨h4, by omega⟩
      · exact ⟨h4, by omega⟩
    · rintro ⟨h4, h5⟩
      by_cases h6 : t < x.f2
      · exact .inl ⟨h4, h6⟩
      · exact .inr ⟨⟨h4, by omega⟩, by omega⟩
theorem without_loop : ∀ (rest pre : List S53) {P : Int → Prop} (l : List S53), IsRuns P l → (pre ++ rest).length ≤ 1000000 → (∀ x ∈ rest, OkS x) →
    ∃ R, Ev (fun k => alloc_without.l0 k l (pre ++ rest) ((pre ++ rest).length : Int) (pre.length : Int)) R ∧ IsRuns (fun t => P t ∧ ¬ Cov rest t) R
  | [], pre, P, l, hl, _, _ => by
    refine ⟨l, Ev.succ (g := fun _ => some l) (fun k => ?_) (Ev.now fun _ => rfl), hl.of fun t => ⟨fun h => ⟨h, cov_nil _⟩, fun h => h.1⟩⟩
    simp only [alloc_without.l0, List.append_nil]
    rw [if_neg (by omega)]
  | x :: rest, pre, P, l, hl, hlen, hx => by
    have hok := hx x List.mem_cons_self
    obtain ⟨x0, x1, x2⟩ := hx x List.mem_cons_self
    have hnext := next_mid pre x rest (by omega)
    have hw := wo1_runs hl hok
    have hn := ro_len hl.1 hl.2.1
    have hfo := frm_ok x0 hl.2.1
    have hfn := ro_len (frm_ro x.f2 hl.1) hfo
    have hwn := ro_len hw.1 hw.2.1
    obtain ⟨R, e, hR⟩ := without_loop rest (pre ++ [x]) (wo1 l x) hw (by simpa using hlen) (fun y hy => hx y (List.mem_cons_of_mem _ hy))
    rw [List.append_assoc, List.singleton_append] at e
    refine ⟨R, Ev.succ (g := fun k => (alloc_clip.f k l x.f2).bind fun p => (some (x.f2 + x.f1)).bind fun q => (alloc_clip.f k p.1 q).bind fun s => if p.2.length + s.1.length < 5864062014805 then alloc_without.l0 k (p.2 ++ s.1) (pre ++ x :: rest) ((pre ++ x :: rest).length : Int) ((pre ++ [x]).length : Int) else none) (fun k => ?_) ?_, hR.of fun t => ?_⟩
    · simp only [alloc_without.l0, alloc_end.f]
      rw [if_pos (len_mid pre x rest), if_pos (by omega), if_pos (len_mid pre x rest), rd_mid, hnext, w64 (n := x.f2 + x.f1) (by omega) (by omega)]
    · refine Ev.bind (clip_eq x.f2 x0 (by omega) l (by omega) hl.2.1) (Ev.bind (Ev.now fun _ => rfl) (Ev.bind (clip_eq (x.f2 + x.f1) (by omega) (by omega) (frm x.f2 l) (by omega) hfo) (Ev.same (fun k => if_pos ?_) e)))
      unfold wo1 at hwn
      rw [List.length_append] at hwn
      simp only
      omega
    · rw [cov_cons]
      constructor
      · rintro ⟨⟨h1, h2⟩, h3⟩
        exact ⟨h1, fun h => h.elim h2 h3⟩
      · rintro ⟨h1, h2⟩
        exact ⟨⟨h1, fun h => h2 (.inl h)⟩, fun h => h2 (.inr h)⟩
theorem without_eq {P : Int → Prop} {l less : List S53} (hl : IsRuns P l) (hn : less.length ≤ 1000000) (hx : ∀ x ∈ less, OkS x) : ∃ R, Ev (fun k => alloc_without.f k l less) R ∧ IsRuns (fun t => P t ∧ ¬ Cov less t) R :=
  without_loop less [] l hl (by simpa using hn) hx
end Go.Proofs.Ytcjpikjbjehjeaa.PAllocB
