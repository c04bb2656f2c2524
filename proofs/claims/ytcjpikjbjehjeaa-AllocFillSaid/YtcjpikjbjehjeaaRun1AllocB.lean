/- Runs of slots in plain Lean: what is covered, lists of runs, that a list of runs is told by what it covers, and what the program's Runs makes of a sorted list. -/
import Derived.Test.YtcjpikjbjehjeaaPAllocBx
namespace Go.Proofs.Ytcjpikjbjehjeaa.PAllocB
open Go.RowKit Go.Proofs.YtcjpikjbjehjeaaW.PrintWords
theorem w64 {n : Int} (h1 : -9223372036854775808 ≤ n) (h2 : n ≤ 9223372036854775807) : wrap64 n = n := by unfold wrap64; omega
theorem rd_mid (pre : List S53) (x : S53) (rest : List S53) : rd_T53 (pre ++ x :: rest) (pre.length : Int) = x := by simp [rd_T53, List.getD]
theorem len_mid (pre : List S53) (x : S53) (rest : List S53) : (pre.length : Int) < ((pre ++ x :: rest).length : Int) := by simp; omega
theorem next_mid (pre : List S53) (x : S53) (rest : List S53) (h : (pre ++ x :: rest).length ≤ 9223372036854775807) : wrap64 ((pre.length : Int) + 1) = ((pre ++ [x]).length : Int) := by
  simp at h
  rw [w64 (by omega) (by omega)]
  simp
/-- Slot t is in one of the extents. -/
def Cov (l : List S53) (t : Int) : Prop := ∃ x ∈ l, x.f2 ≤ t ∧ t < x.f2 + x.f1
/-- A list of runs whose first one begins behind c. -/
def RO (c : Int) : List S53 → Prop
  | [] => True
  | x :: r => x.f0 = 0 ∧ c < x.f2 ∧ 1 ≤ x.f1 ∧ RO (x.f2 + x.f1) r
theorem cov_nil (t : Int) : ¬ Cov [] t := fun ⟨_, h, _⟩ => by cases h
theorem cov_cons (x : S53) (l : List S53) (t : Int) : Cov (x :: l) t ↔ (x.f2 ≤ t ∧ t < x.f2 + x.f1) ∨ Cov l t := by
  constructor
  · rintro ⟨y, hy, h⟩
    rcases List.mem_cons.1 hy with rfl | hy
    · exact .inl h
    · exact .inr ⟨y, hy, h⟩
  · rintro (h | ⟨y, hy, h⟩)
    · exact ⟨x, List.mem_cons_self, h⟩
    · exact ⟨y, List.mem_cons_of_mem _ hy, h⟩
theorem cov_append (l m : List S53) (t : Int) : Cov (l ++ m) t ↔ Cov l t ∨ Cov m t := by
  constructor
  · rintro ⟨y, hy, h⟩
    rcases List.mem_append.1 hy with hy | hy
    · exact .inl ⟨y, hy, h⟩
    · exact .inr ⟨y, hy, h⟩
  · rintro (⟨y, hy, h⟩ | ⟨y, hy, h⟩)
    · exact ⟨y, List.mem_append_left _ hy, h⟩
    · exact ⟨y, List.mem_append_right _ hy, h⟩
theorem cov_perm {l m : List S53} (h : l.Perm m) (t : Int) : Cov l t ↔ Cov m t :=
  ⟨fun ⟨x, hx, hc⟩ => ⟨x, h.mem_iff.1 hx, hc⟩, fun ⟨x, hx, hc⟩ => ⟨x, h.mem_iff.2 hx, hc⟩⟩
theorem RO.lt : ∀ {l : List S53} {c t : Int}, RO c l → Cov l t → c < t
  | [], _, _, _, h => absurd h (cov_nil _)
  | x :: l, c, t, ⟨_, h1, h2, h3⟩, h => by
    rcases (cov_cons x l t).1 h with h | h
    · omega
    · have := RO.lt h3 h; omega
/-- A list of runs is told by what it covers. -/
theorem ro_unique : ∀ {l m : List S53} {c : Int}, RO c l → RO c m → (∀ t, Cov l t ↔ Cov m t) → l = m
  | [], [], _, _, _, _ => rfl
  | [], y :: m, _, _, ⟨_, _, h2, _⟩, h => absurd ((h y.f2).2 ((cov_cons _ _ _).2 (.inl ⟨Int.le_refl _, by omega⟩))) (cov_nil _)
  | x :: l, [], _, ⟨_, _, h2, _⟩, _, h => absurd ((h x.f2).1 ((cov_cons _ _ _).2 (.inl ⟨Int.le_refl _, by omega⟩))) (cov_nil _)
  | x :: l, y :: m, c, ⟨x0, x1, x2, x3⟩, ⟨y0, y1, y2, y3⟩, h => by
    have a1 : y.f2 ≤ x.f2 := by
      rcases (cov_cons y m _).1 ((h x.f2).1 ((cov_cons _ _ _).2 (.inl ⟨Int.le_refl _, by omega⟩))) with h | h
      · exact h.1
      · have := RO.lt y3 h; omega
    have a2 : x.f2 ≤ y.f2 := by
      rcases (cov_cons x l _).1 ((h y.f2).2 ((cov_cons _ _ _).2 (.inl ⟨Int.le_refl _, by omega⟩))) with h | h
      · exact h.1
      · have := RO.lt x3 h; omega
    have b1 : ¬ (y.f2 + y.f1 < x.f2 + x.f1) := fun hc => by
      rcases (cov_cons y m _).1 ((h (y.f2 + y.f1)).1 ((cov_cons _ _ _).2 (.inl ⟨by omega, hc⟩))) with h | h
      · omega
      · have := RO.lt y3 h; omega
    have b2 : ¬ (x.f2 + x.f1 < y.f2 + y.f1) := fun hc => by
      rcases (cov_cons x l _).1 ((h (x.f2 + x.f1)).2 ((cov_cons _ _ _).2 (.inl ⟨by omega, hc⟩))) with h | h
      · omega
      · have := RO.lt x3 h; omega
    have hxy : x = y := by
      obtain ⟨p, q, r⟩ := x
      obtain ⟨p', q', r'⟩ := y
      simp only at *
      have e1 : p = p' := by omega
      have e2 : q = q' := by omega
      have e3 : r = r' := by omega
      rw [e1, e2, e3]
    subst hxy
    rw [ro_unique x3 y3 (fun t => ?_)]
    constructor
    · intro ht
      rcases (cov_cons x m _).1 ((h t).1 ((cov_cons _ _ _).2 (.inr ht))) with h | h
      · have := RO.lt x3 ht; omega
      · exact h
    · intro ht
      rcases (cov_cons x l _).1 ((h t).2 ((cov_cons _ _ _).2 (.inr ht))) with h | h
      · have := RO.lt y3 ht; omega
      · exact h
/-- The slot behind a list of runs. -/
def rEnd (c : Int) : List S53 → Int
  | [] => c
  | x :: r => rEnd (x.f2 + x.f1) r
theorem rEnd_snoc (l : List S53) (c : Int) (x : S53) : rEnd c (l ++ [x]) = x.f2 + x.f1 := by
  induction l generalizing c with
  | nil => rfl
  | cons y l ih => exact ih _
theorem ro_snoc {l : List S53} {c : Int} {x : S53} : RO c (l ++ [x]) ↔ RO c l ∧ x.f0 = 0 ∧ rEnd c l < x.f2 ∧ 1 ≤ x.f1 := by
  induction l generalizing c with
  | nil => simp [RO, rEnd]
  | cons y l ih =>
    simp only [List.cons_append, RO, rEnd, ih]
    constructor
    · rintro ⟨h1, h2, h3, h4, h5⟩; exact ⟨⟨h1, h2, h3, h4⟩, h5⟩
    · rintro ⟨⟨h1, h2, h3, h4⟩, h5⟩; exact ⟨h1, h2, h3, h4, h5⟩
/-- An extent whose slots exist. -/
def OkS (x : S53) : Prop := 0 ≤ x.f2 ∧ 1 ≤ x.f1 ∧ x.f2 + x.f1 ≤ 65536
theorem rd_end (pre : List S53) (y : S53) : rd_T53 (pre ++ [y]) (((pre ++ [y]).length : Int) - 1) = y := by
  have : ((pre ++ [y]).length : Int) - 1 = (pre.length : Int) := by simp
  rw [this]
  exact rd_mid pre y []
theorem set_end (pre : List S53) (y z : S53) : (pre ++ [y]).set ((((pre ++ [y]).length : Int) - 1)).toNat z = pre ++ [z] := by
  have : (((pre ++ [y]).length : Int) - 1).toNat = pre.length := by simp
  rw [this]
  simp
/-- The program's loop: the runs of what is still to come, joined to what is made. -/
theorem runs_loop : ∀ (rest pre out : List S53) (k : Nat), RO (-1) out → (∀ x ∈ rest, OkS x) → (∀ x ∈ out, OkS x) → rest.Pairwise (fun a b => a.f2 ≤ b.f2) → (∀ x ∈ rest, ∀ y, out.getLast? = some y → y.f2 ≤ x.f2) → (pre ++ rest).length ≤ 2000000000 → out.length ≤ pre.length → rest.length < k →
    ∃ R, extent_Runs.l0 k out (pre ++ rest) ((pre ++ rest).length : Int) (pre.length : Int) = some R ∧ RO (-1) R ∧ (∀ x ∈ R, OkS x) ∧ (∀ t, Cov R t ↔ Cov out t ∨ Cov rest t) ∧ R.length ≤ out.length + rest.length
  | [], pre, out, k, ho, _, hk, _, _, _, _, hf => by
    obtain ⟨k, rfl⟩ : ∃ m, k = m + 1 := ⟨k - 1, by omega⟩
    refine ⟨out, ?_, ho, hk, fun t => ⟨.inl, fun h => h.elim id (fun h => absurd h (cov_nil _))⟩, by simp⟩
    simp only [extent_Runs.l0, List.append_nil]
    rw [if_neg (by omega)]
  | x :: rest, pre, out, k, ho, hr, hk, hp, hl, hlen, hol, hf => by
    obtain ⟨k, rfl⟩ : ∃ m, k = m + 1 := ⟨k - 1, by omega⟩
    have hx := hr x List.mem_cons_self
    unfold OkS at hx
    have hlen' := hlen
    simp only [List.length_append, List.length_cons] at hlen'
    have hnext := next_mid pre x rest (by omega)
    obtain ⟨hp1, hp2⟩ := List.pairwise_cons.1 hp
    have IH := fun out' (h1 : RO (-1) out') (h2 : ∀ z ∈ out', OkS z) (h3 : ∀ z ∈ rest, ∀ y, out'.getLast? = some y → y.f2 ≤ z.f2) (h4 : out'.length ≤ pre.length + 1) => runs_loop rest (pre ++ [x]) out' k h1 (fun z hz => hr z (List.mem_cons_of_mem _ hz)) h2 hp2 h3 (by simp; omega) (by simp; omega) (by simp at hf; omega)
    rw [List.append_assoc, List.singleton_append] at IH
    simp only [extent_Runs.l0]
    rw [if_pos (len_mid pre x rest), if_pos (by omega), if_pos (len_mid pre x rest), rd_mid, hnext]
    rcases List.eq_nil_or_concat out with rfl | ⟨o, y, hoy⟩
    · simp only [List.length_nil]
      rw [show wrap64 (((0 : Nat) : Int) - 1) = -1 from by unfold wrap64; omega, if_neg (by omega), if_pos (by omega)]
      obtain ⟨R, e, r1, r2, r3, r4⟩ := IH [⟨0, x.f1, x.f2⟩] ⟨rfl, by show (-1 : Int) < x.f2; omega, hx.2.1, trivial⟩ (by intro z hz; simp at hz; subst hz; exact hx) (by intro z hz y hy; simp at hy; subst hy; exact hp1 z hz) (by simp)
      refine ⟨R, by simpa using e, r1, r2, fun t => ?_, by simp at r4 ⊢; omega⟩
      rw [r3, cov_cons, cov_cons]
      exact ⟨fun h => .inr (h.elim (fun h => h.elim .inl (fun h => absurd h (cov_nil _))) .inr), fun h => h.elim (fun h => absurd h (cov_nil _)) (fun h => h.elim (fun h => .inl (.inl h)) .inr)⟩
    · rw [List.concat_eq_append] at hoy
      subst hoy
      have hy := hk y (by simp)
      have hy' := hy
      unfold OkS at hy
      have hyx := hl x List.mem_cons_self y (by simp)
      have hlo : (o ++ [y]).length ≤ 2000000000 := by omega
      have hpos : 1 ≤ (o ++ [y]).length := by simp
      obtain ⟨hoo, y0, y1, y2⟩ := ro_snoc.1 ho
      rw [w64 (n := ((o ++ [y]).length : Int) - 1) (by omega) (by omega), if_pos (by omega), if_pos (by omega), if_pos (by omega), rd_end, set_end, w64 (n := y.f2 + y.f1) (by omega) (by omega)]
      by_cases hc : x.f2 ≤ y.f2 + y.f1
      · rw [if_pos hc, w64 (n := x.f2 + x.f1) (by omega) (by omega), w64 (n := x.f2 + x.f1 - y.f2) (by omega) (by omega)]
        have hmx : mx y.f1 (x.f2 + x.f1 - y.f2) = if y.f1 < x.f2 + x.f1 - y.f2 then x.f2 + x.f1 - y.f2 else y.f1 := rfl
        generalize hq : mx y.f1 (x.f2 + x.f1 - y.f2) = q
        rw [hq] at hmx
        have q1 : 1 ≤ q ∧ y.f2 + q ≤ 65536 ∧ y.f1 ≤ q ∧ x.f2 + x.f1 ≤ y.f2 + q ∧ (q = y.f1 ∨ y.f2 + q = x.f2 + x.f1) := by split at hmx <;> omega
        obtain ⟨R, e, r1, r2, r3, r4⟩ := IH (o ++ [⟨y.f0, q, y.f2⟩]) (ro_snoc.2 ⟨hoo, y0, y1, q1.1⟩)
          (by intro z hz; rcases List.mem_append.1 hz with hz | hz
              · exact hk z (List.mem_append_left _ hz)
              · simp at hz; subst hz; exact ⟨hy.1, q1.1, q1.2.1⟩)
          (by intro z hz w hw; simp at hw; subst hw; have := hp1 z hz; show y.f2 ≤ z.f2; omega) (by simp at hol ⊢; omega)
        refine ⟨R, e, r1, r2, fun t => ?_, by simp at r4 ⊢; omega⟩
        rw [r3, cov_append, cov_append, cov_cons, cov_cons, cov_cons]
        simp only
        constructor
        · rintro ((h | h | h) | h)
          · exact .inl (.inl h)
          · by_cases hb : t < y.f2 + y.f1
            · exact .inl (.inr (.inl ⟨h.1, hb⟩))
            · exact .inr (.inl ⟨by omega, by omega⟩)
          · exact absurd h (cov_nil _)
          · exact .inr (.inr h)
        · rintro ((h | h | h) | h | h)
          · exact .inl (.inl h)
          · exact .inl (.inr (.inl ⟨h.1, by omega⟩))
          · exact absurd h (cov_nil _)
          · exact .inl (.inr (.inl ⟨by omega, by omega⟩))
          · exact .inr h
      · rw [if_neg hc, if_pos (by omega)]
        obtain ⟨R, e, r1, r2, r3, r4⟩ := IH (o ++ [y] ++ [⟨0, x.f1, x.f2⟩]) (ro_snoc.2 ⟨ho, rfl, by rw [rEnd_snoc]; show y.f2 + y.f1 < x.f2; omega, hx.2.1⟩)
          (by intro z hz; rcases List.mem_append.1 hz with hz | hz
              · exact hk z hz
              · simp at hz; subst hz; exact hx)
          (by intro z hz w hw; simp at hw; subst hw; exact hp1 z hz) (by simp at hol ⊢; omega)
        refine ⟨R, e, r1, r2, fun t => ?_, by simp at r4 ⊢; omega⟩
        rw [r3, cov_append (o ++ [y]), cov_cons, cov_cons]
        simp only
        constructor
        · rintro ((h | h | h) | h)
          · exact .inl h
          · exact .inr (.inl h)
          · exact absurd h (cov_nil _)
          · exact .inr (.inr h)
        · rintro (h | h | h)
          · exact .inl (.inl h)
          · exact .inl (.inr (.inl h))
          · exact .inr h
end Go.Proofs.Ytcjpikjbjehjeaa.PAllocB
