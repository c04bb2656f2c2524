/- What Take chooses: the code's choice out of its free runs is the document's choice out of the free slots. -/
import Derived.Test.YtcjpikjbjehjeaaAlo3AllocB
namespace Go.Proofs.Ytcjpikjbjehjeaa.PAllocB
open Go.RowKit Go.Proofs.YtcjpikjbjehjeaaW.PrintWords
set_option linter.unusedVariables false
set_option linter.unusedSimpArgs false
/-- Slot t is free. -/
def frB (m : List Bool) (t : Int) : Bool := !rdOf false m t
def fr (m : List Bool) (t : Int) : Prop := 0 ≤ t ∧ t < m.length ∧ frB m t = true
/-- The lowest c slots from s on, d of them looked at, of which P speaks. -/
def pk (P : Int → Bool) : Nat → Int → Int → List S53
  | 0, _, _ => []
  | d + 1, s, c => if 0 < c then (if P s = true then ⟨0, 1, s⟩ :: pk P d (s + 1) (c - 1) else pk P d (s + 1) c) else []
theorem pk_len (P : Int → Bool) : ∀ (d : Nat) (s c : Int), (pk P d s c).length ≤ d
  | 0, _, _ => Nat.le_refl _
  | d + 1, s, c => by
    have h1 := pk_len P d (s + 1) (c - 1)
    have h2 := pk_len P d (s + 1) c
    rw [pk]
    split
    · split
      · rw [List.length_cons]
        omega
      · omega
    · simp
theorem pk_mem (P : Int → Bool) : ∀ (d : Nat) (s c : Int) (x : S53), x ∈ pk P d s c → x.f0 = 0 ∧ x.f1 = 1 ∧ s ≤ x.f2 ∧ x.f2 < s + d
  | 0, _, _, x, h => by cases h
  | d + 1, s, c, x, h => by
    rw [pk] at h
    split at h
    · split at h
      · rcases List.mem_cons.1 h with rfl | h
        · exact ⟨rfl, rfl, Int.le_refl _, by show s < s + ((d + 1 : Nat) : Int); omega⟩
        · obtain ⟨h1, h2, h3, h4⟩ := pk_mem P d (s + 1) (c - 1) x h
          exact ⟨h1, h2, by omega, by omega⟩
      · obtain ⟨h1, h2, h3, h4⟩ := pk_mem P d (s + 1) c x h
        exact ⟨h1, h2, by omega, by omega⟩
    · cases h
theorem pk_cov (P : Int → Bool) : ∀ (d : Nat) (s c t : Int), Cov (pk P d s c) t ↔ s ≤ t ∧ t < s + d ∧ P t = true ∧ numP P s (t - s).toNat < c
  | 0, s, c, t => ⟨fun h => absurd h (cov_nil _), fun h => by omega⟩
  | d + 1, s, c, t => by
    rw [pk]
    by_cases hc : 0 < c
    · rw [if_pos hc]
      by_cases hs : t < s
      · have h1 := pk_mem P d (s + 1) (c - 1)
        have h2 := pk_mem P d (s + 1) c
        constructor
        · rintro ⟨x, hx, h3, h4⟩
          exfalso
          split at hx
          · rcases List.mem_cons.1 hx with rfl | hx
            · simp only at h3; omega
            · have := h1 x hx; omega
          · have := h2 x hx; omega
        · intro h; omega
      · by_cases ht : t = s
        · subst ht
          have e0 : (t - t).toNat = 0 := by omega
          rw [e0, numP]
          by_cases hp : P t = true
          · rw [if_pos hp, cov_cons]
            exact ⟨fun _ => ⟨Int.le_refl _, by omega, hp, hc⟩, fun _ => .inl ⟨Int.le_refl _, by show t < t + 1; omega⟩⟩
          · rw [if_neg hp]
            constructor
            · rintro ⟨x, hx, h3, h4⟩
              have := pk_mem P d (t + 1) c x hx
              omega
            · intro h
              exact absurd h.2.2.1 hp
        · have e1 : (t - s).toNat = (t - (s + 1)).toNat + 1 := by omega
          rw [e1, numP]
          by_cases hp : P s = true
          · rw [if_pos hp, if_pos hp, cov_cons, pk_cov P d (s + 1) (c - 1) t]
            constructor
            · rintro (h | h)
              · simp only at h; omega
              · exact ⟨by omega, by omega, h.2.2.1, by omega⟩
            · intro h
              exact .inr ⟨by omega, by omega, h.2.2.1, by omega⟩
          · rw [if_neg hp, if_neg hp, pk_cov P d (s + 1) c t]
            constructor
            · intro h
              exact ⟨by omega, by omega, h.2.2.1, by omega⟩
            · intro h
              exact ⟨by omega, by omega, h.2.2.1, by omega⟩
    · rw [if_neg hc]
      refine ⟨fun h => absurd h (cov_nil _), fun h => ?_⟩
      have := (numP_bound P (t - s).toNat s).1
      omega
theorem some_loop (m : List Bool) (hm : m.length ≤ 65536) (te most : Int) (hto : te ≤ m.length) {R : List S53} : ∀ (d : Nat) (s : Int) (acc : List S53), 0 ≤ s → s + d = te → acc.length ≤ s →
    Ev (fun k => tegularef32_Runs.f k (acc ++ pk (frB m) d s (most - acc.length))) R → Ev (fun k => tegularef35_Map_some.l0 k m te most acc s) R
  | 0, s, acc, h0, h1, h2, h => by
    rw [pk, List.append_nil] at h
    refine Ev.succ (g := fun k => tegularef35_Map_some.j1 k m te most acc s false) (fun k => ?_) (Ev.succ (g := fun k => (tegularef32_Runs.f k acc).bind fun t => some t) (fun k => ?_) (Ev.bind h (Ev.now fun _ => rfl)))
    · simp only [tegularef35_Map_some.l0]
      rw [if_neg (by omega)]
    · simp only [tegularef35_Map_some.j1]
      rw [if_neg (by decide)]
  | d + 1, s, acc, h0, h1, h2, h => by
    rw [pk] at h
    by_cases hc : (acc.length : Int) < most
    · rw [if_pos (by omega)] at h
      by_cases hp : rdOf false m s = true
      · rw [if_neg (by unfold frB; rw [hp]; decide)] at h
        refine Ev.succ (g := fun k => tegularef35_Map_some.j1 k m te most acc s true) (fun k => ?_) (Ev.succ (fun k => ?_) (some_loop m hm te most hto d (s + 1) acc (by omega) (by omega) (by omega) h))
        · simp only [tegularef35_Map_some.l0]
          rw [if_pos (by omega), decide_eq_true hc]
        · simp only [tegularef35_Map_some.j1]
          rw [if_pos trivial, if_pos (by omega), if_pos (by omega), if_pos hp, w64 (n := s + 1) (by omega) (by omega)]
      · rw [if_pos (by unfold frB; rw [Bool.eq_false_iff.2 hp]; rfl)] at h
        refine Ev.succ (g := fun k => tegularef35_Map_some.j1 k m te most acc s true) (fun k => ?_) (Ev.succ (fun k => ?_) (some_loop m hm te most hto d (s + 1) (acc ++ [⟨0, 1, s⟩]) (by omega) (by omega) (by simp; omega) ?_))
        · simp only [tegularef35_Map_some.l0]
          rw [if_pos (by omega), decide_eq_true hc]
        · simp only [tegularef35_Map_some.j1]
          rw [if_pos trivial, if_pos (by omega), if_pos (by omega), if_neg hp, if_pos (by omega), w64 (n := s + 1) (by omega) (by omega)]
        · have e : most - ((acc ++ [(⟨0, 1, s⟩ : S53)]).length : Int) = most - acc.length - 1 := by simp; omega
          rw [e, List.append_assoc]
          exact h
    · rw [if_neg (by omega), List.append_nil] at h
      refine Ev.succ (g := fun k => tegularef35_Map_some.j1 k m te most acc s false) (fun k => ?_) (Ev.succ (g := fun k => (tegularef32_Runs.f k acc).bind fun t => some t) (fun k => ?_) (Ev.bind h (Ev.now fun _ => rfl)))
      · simp only [tegularef35_Map_some.l0]
        rw [if_pos (by omega), decide_eq_false hc]
      · simp only [tegularef35_Map_some.j1]
        rw [if_neg (by decide)]
theorem some_eq (m : List Bool) (hm : m.length ≤ 65536) (fm te most : Int) (h0 : 0 ≤ fm) (h1 : fm ≤ te) (h2 : te ≤ m.length) :
    ∃ R, Ev (fun k => tegularef35_Map_some.f k m fm te most) R ∧ IsRuns (fun t => fm ≤ t ∧ t < te ∧ frB m t = true ∧ numP (frB m) fm (t - fm).toNat < most) R := by
  have hl := pk_len (frB m) (te - fm).toNat fm most
  have hone : ∀ x ∈ pk (frB m) (te - fm).toNat fm most, oneB x = true := fun x hx => by
    obtain ⟨h3, h4, h5, h6⟩ := pk_mem _ _ _ _ x hx
    unfold oneB
    exact decide_eq_true ⟨by omega, by omega, by omega, by omega, by omega⟩
  obtain ⟨R, e, r1, r2, r3⟩ := ref_runs (pk (frB m) (te - fm).toNat fm most) (by omega)
  rw [List.filter_eq_self.2 hone] at r3
  refine ⟨R, some_loop m hm te most h2 (te - fm).toNat fm [] h0 (by omega) (by simp; omega) (by simpa using e), r1, r2, fun t => (r3 t).trans ?_⟩
  rw [pk_cov]
  constructor
  · rintro ⟨h3, h4, h5⟩
    exact ⟨h3, by omega, h5⟩
  · rintro ⟨h3, h4, h5⟩
    exact ⟨h3, by omega, h5⟩
/-- The n lowest slots of runs. -/
def lo : List S53 → Int → List S53
  | [], _ => []
  | x :: l, n => (if 0 < mn n x.f1 then [⟨0, mn n x.f1, x.f2⟩] else []) ++ lo l (n - mn n x.f1)
theorem low_loop : ∀ (rest pre acc : List S53) (n : Int), (pre ++ rest).length ≤ 1000000 → acc.length + rest.length ≤ 2000000 → 0 ≤ n → n ≤ 1000000 → (∀ x ∈ rest, OkS x) →
    Ev (fun k => alloc_lowest.l0 k n acc (pre ++ rest) ((pre ++ rest).length : Int) (pre.length : Int)) (acc ++ lo rest n)
  | [], pre, acc, n, _, _, _, _, _ => by
    refine Ev.succ (g := fun _ => some acc) (fun k => ?_) (Ev.now fun _ => by rw [lo, List.append_nil])
    simp only [alloc_lowest.l0, List.append_nil]
    rw [if_neg (by omega)]
  | x :: rest, pre, acc, n, hlen, hacc, h0, h1, hx => by
    obtain ⟨o0, o1, o2⟩ := hx x List.mem_cons_self
    have hnext := next_mid pre x rest (by omega)
    have hmn := @mn_le n x.f1
    rw [List.length_cons] at hacc
    have ih := fun a ha => low_loop rest (pre ++ [x]) a (n - mn n x.f1) (by simpa using hlen) ha (by omega) (by omega) (fun y hy => hx y (List.mem_cons_of_mem _ hy))
    rw [List.append_assoc, List.singleton_append] at ih
    rw [lo]
    by_cases hp : 0 < mn n x.f1
    · have ih' := ih (acc ++ [⟨0, mn n x.f1, x.f2⟩]) (by simp; omega)
      rw [if_pos hp, ← List.append_assoc]
      refine Ev.succ (fun k => ?_) ih'
      simp only [alloc_lowest.l0, alloc_run.f]
      rw [if_pos (len_mid pre x rest), if_pos (by omega), if_pos (len_mid pre x rest), rd_mid, hnext, if_pos (by omega)]
      simp only [Option.bind_some]
      rw [if_pos (by omega), w64 (n := x.f2 + mn n x.f1) (by omega) (by omega), w64 (n := x.f2 + mn n x.f1 - x.f2) (by omega) (by omega), w64 (n := n - mn n x.f1) (by omega) (by omega), show x.f2 + mn n x.f1 - x.f2 = mn n x.f1 by omega]
    · have ih' := ih acc (by omega)
      rw [if_neg hp, List.nil_append]
      refine Ev.succ (fun k => ?_) ih'
      simp only [alloc_lowest.l0, alloc_run.f]
      rw [if_pos (len_mid pre x rest), if_pos (by omega), if_pos (len_mid pre x rest), rd_mid, hnext, if_neg (by omega), w64 (n := n - mn n x.f1) (by omega) (by omega)]
theorem low_eq (l : List S53) (n : Int) (hl : l.length ≤ 1000000) (h0 : 0 ≤ n) (h1 : n ≤ 1000000) (hx : ∀ x ∈ l, OkS x) : Ev (fun k => alloc_lowest.f k l n) (lo l n) :=
  low_loop l [] [] n (by simpa using hl) (by simp; omega) h0 h1 hx
theorem lo_ro : ∀ {l : List S53} {c : Int} (n : Int), RO c l → RO c (lo l n)
  | [], _, _, _ => trivial
  | x :: l, c, n, ⟨h0, h1, h2, h3⟩ => by
    have ih := lo_ro (n - mn n x.f1) h3
    have hmn := @mn_le n x.f1
    rw [lo]
    split
    · exact ⟨rfl, h1, by show 1 ≤ mn n x.f1; omega, RO.mono ih (by show x.f2 + mn n x.f1 ≤ x.f2 + x.f1; omega)⟩
    · exact RO.mono ih (by omega)
theorem lo_ok : ∀ {l : List S53} {n : Int}, (∀ x ∈ l, OkS x) → ∀ y ∈ lo l n, OkS y
  | [], _, _, y, hy => by cases hy
  | x :: l, n, h, y, hy => by
    have hmn := @mn_le n x.f1
    obtain ⟨o0, o1, o2⟩ := h x List.mem_cons_self
    rw [lo] at hy
    rcases List.mem_append.1 hy with hy | hy
    · split at hy
      · rw [List.mem_singleton.1 hy]
        exact ⟨o0, by show 1 ≤ mn n x.f1; omega, by show x.f2 + mn n x.f1 ≤ 65536; omega⟩
      · cases hy
    · exact lo_ok (fun z hz => h z (List.mem_cons_of_mem _ hz)) y hy
theorem lo_lenS : ∀ {l : List S53} {n : Int}, (∀ x ∈ l, OkS x) → 0 ≤ n → lenS (lo l n) = mn n (lenS l)
  | [], n, _, h => by
    have := @mn_le n 0
    show (0 : Int) = mn n 0
    omega
  | x :: l, n, h, h0 => by
    have hmn := @mn_le n x.f1
    obtain ⟨o0, o1, o2⟩ := h x List.mem_cons_self
    have hl := lenS_nonneg fun y hy => by have := (h y (List.mem_cons_of_mem _ hy)).2.1; omega
    have ih := lo_lenS (n := n - mn n x.f1) (fun z hz => h z (List.mem_cons_of_mem _ hz)) (by omega)
    have h1 := @mn_le n (x.f1 + lenS l)
    have h2 := @mn_le (n - mn n x.f1) (lenS l)
    rw [lo, lenS_append, ih, lenS]
    split
    · simp only [lenS]
      omega
    · simp only [lenS]
      omega
theorem lo_zero : ∀ {l : List S53}, (∀ x ∈ l, OkS x) → lo l 0 = []
  | [], _ => rfl
  | x :: l, h => by
    obtain ⟨o0, o1, o2⟩ := h x List.mem_cons_self
    have e : mn 0 x.f1 = 0 := by have := @mn_le 0 x.f1; omega
    rw [lo, e, if_neg (by decide), List.nil_append, Int.sub_zero]
    exact lo_zero fun z hz => h z (List.mem_cons_of_mem _ hz)
theorem num_split (P : Int → Bool) (s t u : Int) (h1 : s ≤ t) (h2 : t ≤ u) : numP P s (u - s).toNat = numP P s (t - s).toNat + numP P t (u - t).toNat := by
  have e : (u - s).toNat = (t - s).toNat + (u - t).toNat := by omega
  rw [e, numP_add, show s + ((t - s).toNat : Int) = t by omega]
theorem lo_cov : ∀ {l : List S53} {c n : Int}, RO c l → (∀ x ∈ l, OkS x) → 0 ≤ n → ∀ t, Cov (lo l n) t ↔ Cov l t ∧ numP (covB l) (c + 1) (t - (c + 1)).toNat < n
  | [], _, _, _, _, _, _ => ⟨fun h => absurd h (cov_nil _), fun h => h.1⟩
  | x :: l, c, n, ⟨h0, h1, h2, h3⟩, hok, hn, t => by
    have hmn := @mn_le n x.f1
    have hok' : ∀ z ∈ l, OkS z := fun z hz => hok z (List.mem_cons_of_mem _ hz)
    have hbf : ∀ u, u < x.f2 → covB (x :: l) u = false := fun u hu => Bool.eq_false_iff.2 fun h => by
      rcases (cov_cons _ _ _).1 (covB_iff.1 h) with h | h
      · omega
      · have := h3.lt h; omega
    have hin : ∀ u, x.f2 ≤ u → u < x.f2 + x.f1 → covB (x :: l) u = true := fun u hu hv => covB_iff.2 ((cov_cons _ _ _).2 (.inl ⟨hu, hv⟩))
    have hout : ∀ u, x.f2 + x.f1 ≤ u → covB (x :: l) u = covB l u := fun u hu => by
      rw [Bool.eq_iff_iff, covB_iff, covB_iff, cov_cons]
      exact ⟨fun h => h.elim (fun h => by omega) id, .inr⟩
    have e1 : lo (x :: l) n = (if 0 < mn n x.f1 then [⟨0, mn n x.f1, x.f2⟩] else []) ++ lo l (n - mn n x.f1) := rfl
    have hA : Cov (if 0 < mn n x.f1 then [(⟨0, mn n x.f1, x.f2⟩ : S53)] else []) t ↔ x.f2 ≤ t ∧ t < x.f2 + mn n x.f1 := by
      split
      · rw [cov_one]
      · exact ⟨fun h => absurd h (cov_nil _), fun h => by omega⟩
    have ih := lo_cov (n := n - mn n x.f1) h3 hok' (by omega) t
    rw [e1, cov_append, hA, ih, cov_cons]
    have hnn := fun s d => numP_bound (covB l) d s
    by_cases ht : x.f2 ≤ t ∧ t < x.f2 + x.f1
    · have hnl : ¬ Cov l t := fun h => by have := h3.lt h; omega
      have e2 : numP (covB (x :: l)) (c + 1) (t - (c + 1)).toNat = t - x.f2 := by
        rw [num_split _ (c + 1) x.f2 t (by omega) ht.1, numP_false (n := (x.f2 - (c + 1)).toNat) fun u h4 h5 => hbf u (by omega), numP_true (n := (t - x.f2).toNat) fun u h4 h5 => hin u h4 (by omega)]
        omega
      rw [e2]
      constructor
      · rintro (h | h)
        · exact ⟨.inl ht, by omega⟩
        · exact absurd h.1 hnl
      · rintro ⟨_, h⟩
        exact .inl ⟨ht.1, by omega⟩
    · by_cases hc : Cov l t
      · have hlt := h3.lt hc
        have e2 : numP (covB (x :: l)) (c + 1) (t - (c + 1)).toNat = x.f1 + numP (covB l) (x.f2 + x.f1 + 1) (t - (x.f2 + x.f1 + 1)).toNat := by
          rw [num_split _ (c + 1) x.f2 t (by omega) (by omega), num_split _ x.f2 (x.f2 + x.f1) t (by omega) (by omega), num_split _ (x.f2 + x.f1) (x.f2 + x.f1 + 1) t (by omega) (by omega)]
          rw [numP_false (n := (x.f2 - (c + 1)).toNat) fun u h4 h5 => hbf u (by omega), numP_true (n := (x.f2 + x.f1 - x.f2).toNat) fun u h4 h5 => hin u h4 (by omega)]
          rw [numP_false (n := (x.f2 + x.f1 + 1 - (x.f2 + x.f1)).toNat) fun u h4 h5 => by
            rw [hout u h4]
            exact Bool.eq_false_iff.2 fun h => by have := h3.lt (covB_iff.1 h); omega]
          rw [numP_congr (Q := covB l) fun u h4 h5 => hout u (by omega)]
          omega
        rw [e2]
        have := hnn (x.f2 + x.f1 + 1) (t - (x.f2 + x.f1 + 1)).toNat
        constructor
        · rintro (h | h)
          · omega
          · exact ⟨.inr hc, by omega⟩
        · rintro ⟨_, h⟩
          exact .inr ⟨hc, by omega⟩
      · constructor
        · rintro (h | h)
          · exact ⟨absurd (show x.f2 ≤ t ∧ t < x.f2 + x.f1 by omega) ht, by omega⟩
          · exact absurd h.1 hc
        · rintro ⟨h | h, _⟩
          · exact absurd h ht
          · exact absurd h hc
end Go.Proofs.Ytcjpikjbjehjeaa.PAllocB
