/- Permitted lists, Mark and Give of the code: told by the runs of what is listed. -/
import Derived.Test.YtcjpikjbjehjeaaAlo1AllocB
namespace Go.Proofs.Ytcjpikjbjehjeaa.PAllocB
open Go.RowKit Go.Proofs.YtcjpikjbjehjeaaW.PrintWords
set_option linter.unusedVariables false
set_option linter.unusedSimpArgs false
/-- An extent whose slots are among n. -/
def okL (n : Int) (x : S53) : Prop := 1 ≤ x.f1 ∧ 0 ≤ x.f2 ∧ x.f2 + x.f1 ≤ n
instance (n : Int) (x : S53) : Decidable (okL n x) := by unfold okL; infer_instance
def permB (n : Int) (l : List S53) : Bool := l.all fun x => decide (okL n x)
theorem permB_iff {n : Int} {l : List S53} : permB n l = true ↔ ∀ x ∈ l, okL n x := by simp [permB, List.all_eq_true]
theorem okL.ok {n : Int} {x : S53} (hn : n ≤ 65536) (h : okL n x) : OkS x := ⟨h.2.1, h.1, by have := h.2.2; omega⟩
def clr (x : S53) : S53 := ⟨0, x.f1, x.f2⟩
theorem cov_clr (t : Int) : ∀ (l : List S53), Cov (l.map clr) t ↔ Cov l t
  | [] => Iff.rfl
  | x :: l => by rw [List.map_cons, cov_cons, cov_cons, cov_clr t l]; rfl
theorem perm_loop (M : Int) (h0 : 0 ≤ M) (hM : M ≤ 65536) (rs : List S53) : ∀ (rest pre : List S53), (pre ++ rest).length ≤ 1000000 →
    (permB M rest = true → ∀ r, Ev (fun k => alloc_Map_permitted.l1 k (pre ++ rest) (pre ++ rest) ((pre ++ rest).length : Int) 0) r → Ev (fun k => alloc_Map_permitted.l0 k (pre ++ rest) (pre ++ rest) ((pre ++ rest).length : Int) (pre.length : Int) M rs) r) ∧
    (permB M rest = false → Ev (fun k => alloc_Map_permitted.l0 k (pre ++ rest) (pre ++ rest) ((pre ++ rest).length : Int) (pre.length : Int) M rs) ([], false))
  | [], pre, hlen => by
    refine ⟨fun _ r h => Ev.succ (fun k => ?_) h, fun h => by cases h⟩
    simp only [alloc_Map_permitted.l0, api_Extent_32.f, List.append_nil]
    rw [List.append_nil] at hlen
    rw [if_neg (by omega), if_pos (by omega)]
    rfl
  | x :: rest, pre, hlen => by
    have hnext := next_mid pre x rest (by omega)
    have ih := perm_loop M h0 hM rs rest (pre ++ [x]) (by simpa using hlen)
    rw [List.append_assoc, List.singleton_append] at ih
    have hp : permB M (x :: rest) = (decide (okL M x) && permB M rest) := rfl
    have hun : ∀ k, alloc_Map_permitted.l0 (k + 1) (pre ++ x :: rest) (pre ++ x :: rest) ((pre ++ x :: rest).length : Int) (pre.length : Int) M rs = if x.f1 < 1 then some ([], false) else if x.f2 < 0 then some ([], false) else if x.f2 > M then some ([], false) else if x.f1 > wrap64 (M - x.f2) then some ([], false) else alloc_Map_permitted.l0 k (pre ++ x :: rest) (pre ++ x :: rest) ((pre ++ x :: rest).length : Int) ((pre ++ [x]).length : Int) M rs := fun k => by
      simp only [alloc_Map_permitted.l0]
      rw [if_pos (len_mid pre x rest), if_pos (by omega), if_pos (len_mid pre x rest), rd_mid, hnext]
    by_cases ho : okL M x
    · rw [hp, decide_eq_true ho, Bool.true_and]
      unfold okL at ho
      have hk : ∀ k, alloc_Map_permitted.l0 (k + 1) (pre ++ x :: rest) (pre ++ x :: rest) ((pre ++ x :: rest).length : Int) (pre.length : Int) M rs = alloc_Map_permitted.l0 k (pre ++ x :: rest) (pre ++ x :: rest) ((pre ++ x :: rest).length : Int) ((pre ++ [x]).length : Int) M rs := fun k => by
        rw [hun k, if_neg (by omega), if_neg (by omega), if_neg (by omega), w64 (n := M - x.f2) (by omega) (by omega), if_neg (by omega)]
      exact ⟨fun h r hr => Ev.succ hk (ih.1 h r hr), fun h => Ev.succ hk (ih.2 h)⟩
    · rw [hp, decide_eq_false ho, Bool.false_and]
      refine ⟨fun h => (by cases h), fun _ => Ev.succ (g := fun _ => some ([], false)) (fun k => ?_) (Ev.now fun _ => rfl)⟩
      unfold okL at ho
      rw [hun k]
      by_cases h1 : x.f1 < 1
      · rw [if_pos h1]
      · by_cases h2 : x.f2 < 0
        · rw [if_neg h1, if_pos h2]
        · by_cases h3 : x.f2 > M
          · rw [if_neg h1, if_neg h2, if_pos h3]
          · rw [if_neg h1, if_neg h2, if_neg h3, w64 (n := M - x.f2) (by omega) (by omega), if_pos (by omega)]
theorem clr_loop (l : List S53) {r : List S53 × Bool} : ∀ (rest pre : List S53), (pre ++ rest).length ≤ 1000000 →
    Ev (fun k => (extent_Runs.f k (pre ++ rest.map clr)).bind fun t => (alloc_size.f k t).bind fun p => (alloc_size.f k l).bind fun q => some (t, p == q)) r →
    Ev (fun k => alloc_Map_permitted.l1 k l (pre ++ rest) ((pre ++ rest).length : Int) (pre.length : Int)) r
  | [], pre, hlen, h => by
    rw [List.map_nil, List.append_nil] at h
    refine Ev.succ (fun k => ?_) h
    simp only [alloc_Map_permitted.l1, List.append_nil]
    rw [if_neg (by omega)]
  | x :: rest, pre, hlen, h => by
    have hnext := next_mid pre x rest (by omega)
    have ih := clr_loop l (r := r) rest (pre ++ [clr x]) (by simpa using hlen) (by rw [List.append_assoc, List.singleton_append]; exact h)
    rw [List.append_assoc, List.singleton_append] at ih
    have e1 : (pre ++ x :: rest).set (pre.length : Int).toNat ⟨0, x.f1, x.f2⟩ = pre ++ clr x :: rest := by
      rw [Int.toNat_natCast, List.set_append_right _ _ (Nat.le_refl _), Nat.sub_self]
      rfl
    have e2 : ((pre ++ [x]).length : Int) = ((pre ++ [clr x]).length : Int) := by simp
    have e3 : ((pre ++ x :: rest).length : Int) = ((pre ++ clr x :: rest).length : Int) := by simp
    refine Ev.succ (fun k => ?_) ih
    simp only [alloc_Map_permitted.l1]
    rw [if_pos (len_mid pre x rest), if_pos (by omega), if_pos (len_mid pre x rest), rd_mid, hnext, e1, e2, e3]
theorem okS_len {l : List S53} (h : ∀ x ∈ l, OkS x) : ∀ x ∈ l, 0 ≤ x.f1 ∧ x.f1 ≤ 65536 := fun x hx => by
  obtain ⟨h0, h1, h2⟩ := h x hx
  omega
theorem permitted_eq (M : Int) (h0 : 0 ≤ M) (hM : M ≤ 65536) (rs l : List S53) (hl : l.length ≤ 1000) (h : permB M l = true) :
    ∃ R, Ev (fun k => alloc_Map_permitted.f k M rs l) (R, lenS R == lenS l) ∧ IsRuns (Cov l) R := by
  have ho := permB_iff.1 h
  have hf : (l.map clr).filter oneB = l.map clr := List.filter_eq_self.2 fun y hy => by
    obtain ⟨x, hx, rfl⟩ := List.mem_map.1 hy
    obtain ⟨h1, h2, h3⟩ := ho x hx
    unfold oneB clr
    exact decide_eq_true ⟨Int.le_refl _, h2, h1, by show 0 + x.f1 ≤ 65536; omega, by show x.f2 + x.f1 ≤ 65536; omega⟩
  obtain ⟨R, e, hR, hn⟩ := code_runs (l.map clr) (by rw [List.length_map]; omega)
  rw [List.length_map] at hn
  rw [hf] at hR
  have hR' : IsRuns (Cov l) R := hR.of fun t => cov_clr t l
  refine ⟨R, (perm_loop M h0 hM rs l [] (by simpa using (by omega))).1 h _ ?_, hR'⟩
  refine clr_loop l l [] (by simpa using (by omega)) ?_
  exact Ev.bind e (Ev.bind (size_eq R (by omega) (okS_len hR'.2.1)) (Ev.bind (size_eq l (by omega) (fun x hx => okS_len (fun y hy => (ho y hy).ok hM) x hx)) (Ev.now fun _ => rfl)))
theorem permitted_no (M : Int) (h0 : 0 ≤ M) (hM : M ≤ 65536) (rs l : List S53) (hl : l.length ≤ 1000) (h : permB M l = false) : Ev (fun k => alloc_Map_permitted.f k M rs l) ([], false) :=
  (perm_loop M h0 hM rs l [] (by simpa using (by omega))).2 h
/-- The slots of lists among n. -/
theorem runs_num {P : Int → Prop} {R : List S53} {n : Nat} (h : IsRuns P R) (hP : ∀ t, P t → 0 ≤ t ∧ t < n) : lenS R = numP (covB R) 0 n :=
  ro_lenS R (-1) 0 n h.1 fun t ht => by have := hP t ((h.2.2 t).1 ht); omega
theorem numP_eq_zero {P : Int → Bool} : ∀ {n : Nat} {s : Int}, numP P s n = 0 → ∀ t, s ≤ t → t < s + n → P t = false
  | 0, s, _, t, h1, h2 => by omega
  | n + 1, s, h, t, h1, h2 => by
    have := numP_bound P n (s + 1)
    rw [numP] at h
    by_cases hp : P s = true
    · rw [if_pos hp] at h
      omega
    · rw [if_neg hp] at h
      by_cases ht : t = s
      · subst ht
        exact Bool.eq_false_iff.2 hp
      · exact numP_eq_zero (n := n) (s := s + 1) (by omega) t (by omega) (by omega)
/-- Runs without others are as many slots less exactly if these are all there. -/
theorem sub_len {P Q : Int → Prop} {A B C : List S53} {n : Nat} (hA : IsRuns P A) (hB : IsRuns Q B) (hC : IsRuns (fun t => P t ∧ ¬ Q t) C) (hP : ∀ t, P t → 0 ≤ t ∧ t < n) (hQ : ∀ t, Q t → 0 ≤ t ∧ t < n) :
    lenS C + lenS B = lenS A ↔ ∀ t, Q t → P t := by
  rw [runs_num hA hP, runs_num hB hQ, runs_num hC fun t h => hP t h.1]
  have e1 : numP (covB A) 0 n = numP (covB C) 0 n + numP (fun t => covB B t && covB A t) 0 n := numP_lin fun t _ _ => by
    have hc : covB C t = true ↔ covB A t = true ∧ ¬ covB B t = true := by rw [covB_iff, covB_iff, covB_iff, hC.2.2, hA.2.2, hB.2.2]
    cases ha : covB A t <;> cases hb : covB B t <;> simp [ha, hb] at hc ⊢ <;> simp [hc]
  have e2 : numP (covB B) 0 n = numP (fun t => covB B t && covB A t) 0 n + numP (fun t => covB B t && !covB A t) 0 n := numP_lin fun t _ _ => by
    cases covB A t <;> cases covB B t <;> simp
  constructor
  · intro h t ht
    have hz : numP (fun t => covB B t && !covB A t) 0 n = 0 := by omega
    have := hQ t ht
    have h1 := numP_eq_zero hz t (by omega) (by omega)
    have hb : covB B t = true := covB_iff.2 ((hB.2.2 t).2 ht)
    simp only [hb, Bool.true_and, Bool.not_eq_false'] at h1
    exact (hA.2.2 t).1 (covB_iff.1 h1)
  · intro h
    have hz : numP (fun t => covB B t && !covB A t) 0 n = 0 := numP_false fun t _ _ => by
      cases hb : covB B t
      · rfl
      · have : covB A t = true := covB_iff.2 ((hA.2.2 t).2 (h t ((hB.2.2 t).1 (covB_iff.1 hb))))
        simp [this]
    omega
/-- Two lists of runs together are as many slots exactly if they have none in common. -/
theorem add_len {P Q : Int → Prop} {A B C : List S53} {n : Nat} (hA : IsRuns P A) (hB : IsRuns Q B) (hC : IsRuns (fun t => P t ∨ Q t) C) (hP : ∀ t, P t → 0 ≤ t ∧ t < n) (hQ : ∀ t, Q t → 0 ≤ t ∧ t < n) :
    lenS C = lenS A + lenS B ↔ ∀ t, Q t → ¬ P t := by
  rw [runs_num hA hP, runs_num hB hQ, runs_num (n := n) hC fun t h => h.elim (hP t) (hQ t)]
  have e1 : numP (covB C) 0 n = numP (covB A) 0 n + numP (fun t => covB B t && !covB A t) 0 n := numP_lin fun t _ _ => by
    have hc : covB C t = true ↔ covB A t = true ∨ covB B t = true := by rw [covB_iff, covB_iff, covB_iff, hC.2.2, hA.2.2, hB.2.2]
    cases ha : covB A t <;> cases hb : covB B t <;> simp [ha, hb] at hc ⊢ <;> simp [hc]
  have e2 : numP (covB B) 0 n = numP (fun t => covB B t && covB A t) 0 n + numP (fun t => covB B t && !covB A t) 0 n := numP_lin fun t _ _ => by
    cases covB A t <;> cases covB B t <;> simp
  constructor
  · intro h t ht hp
    have hz : numP (fun t => covB B t && covB A t) 0 n = 0 := by omega
    have := hQ t ht
    have h1 := numP_eq_zero hz t (by omega) (by omega)
    have hb : covB B t = true := covB_iff.2 ((hB.2.2 t).2 ht)
    have ha : covB A t = true := covB_iff.2 ((hA.2.2 t).2 hp)
    simp [ha, hb] at h1
  · intro h
    have hz : numP (fun t => covB B t && covB A t) 0 n = 0 := numP_false fun t _ _ => by
      cases hb : covB B t
      · rfl
      · have : covB A t = false := Bool.eq_false_iff.2 fun ha => h t ((hB.2.2 t).1 (covB_iff.1 hb)) ((hA.2.2 t).1 (covB_iff.1 ha))
        simp [this]
    omega
/-- A list that Mark and Give permit: its slots are among n, and no one is listed twice. -/
def permL (n : Int) (l : List S53) : Prop := permB n l = true ∧ ∀ R, IsRuns (Cov l) R → lenS R = lenS l
theorem ro_cov_ok {n : Int} {l : List S53} (h : permB n l = true) : ∀ t, Cov l t → 0 ≤ t ∧ t < n := fun t ⟨x, hx, h1, h2⟩ => by
  obtain ⟨h3, h4, h5⟩ := permB_iff.1 h x hx
  omega
theorem lenS_nonneg : ∀ {l : List S53}, (∀ x ∈ l, 0 ≤ x.f1) → 0 ≤ lenS l
  | [], _ => Int.le_refl _
  | x :: l, h => by
    have := h x List.mem_cons_self
    have := lenS_nonneg fun y hy => h y (List.mem_cons_of_mem _ hy)
    rw [lenS]
    omega
theorem runs_le {P : Int → Prop} {R : List S53} {n : Nat} (h : IsRuns P R) (hP : ∀ t, P t → 0 ≤ t ∧ t < n) : 0 ≤ lenS R ∧ lenS R ≤ n := by
  rw [runs_num h hP]
  exact numP_bound _ _ _
theorem mark_eq {n : Nat} {P : Int → Prop} {rs l : List S53} (hn : n ≤ 65536) (hr : IsRuns P rs) (hP : ∀ t, P t → 0 ≤ t ∧ t < n) (hl : l.length ≤ 1000) :
    (¬ permL n l → Ev (fun k => alloc_Map_Mark.f k n rs l) (0, [], 2)) ∧
    (permL n l → (¬ ∀ t, Cov l t → P t) → Ev (fun k => alloc_Map_Mark.f k n rs l) (0, [], 8)) ∧
    (permL n l → (∀ t, Cov l t → P t) → ∃ R, Ev (fun k => alloc_Map_Mark.f k n rs l) ((n : Int), R, 0) ∧ IsRuns (fun t => P t ∧ ¬ Cov l t) R) := by
  cases hp : permB n l
  · refine ⟨fun _ => Ev.bind (permitted_no n (by omega) (by omega) rs l hl hp) (Ev.now fun _ => rfl), fun h => ?_, fun h => ?_⟩
    · rw [h.1] at hp
      cases hp
    · rw [h.1] at hp
      cases hp
  · obtain ⟨R, e, hR⟩ := permitted_eq n (by omega) (by omega) rs l hl hp
    have hlR := ro_len hR.1 hR.2.1
    have hlr := ro_len hr.1 hr.2.1
    by_cases hd : lenS R = lenS l
    · have hpl : permL n l := ⟨hp, fun R' h' => by rw [h'.uniq hR fun _ => Iff.rfl]; exact hd⟩
      obtain ⟨W, ew, hW⟩ := without_eq hr (by omega) hR.2.1
      have hW' : IsRuns (fun t => P t ∧ ¬ Cov l t) W := hW.of fun t => by rw [hR.2.2 t]
      have hlW := ro_len hW.1 hW.2.1
      have hc := ro_cov_ok hp
      have hs := sub_len hr hR hW' hP hc
      have b1 := runs_le hR hc
      have b2 := runs_le (n := n) hW' fun t h => hP t h.1
      have ev : ∀ r, Ev (fun _ => if lenS W + lenS R = lenS rs then some ((n : Int), W, (0 : Int)) else some (0, [], 8)) r → Ev (fun k => alloc_Map_Mark.f k n rs l) r := fun r h => by
        refine Ev.bind e (Ev.same (g := fun k => (alloc_without.f k rs R).bind fun t183 => (alloc_size.f k t183).bind fun t186 => (alloc_size.f k R).bind fun t187 => (alloc_size.f k rs).bind fun t188 => if (wrap64 (t186 + t187)) = t188 then some ((n : Int), t183, 0) else some (0, [], 8)) (fun k => if_pos (by rw [hd]; simp)) ?_)
        refine Ev.bind ew (Ev.bind (size_eq W (by omega) (okS_len hW.2.1)) (Ev.bind (size_eq R (by omega) (okS_len hR.2.1)) (Ev.bind (size_eq rs (by omega) (okS_len hr.2.1)) ?_)))
        rw [w64 (n := lenS W + lenS R) (by omega) (by omega)]
        exact h
      refine ⟨fun h => absurd hpl h, fun _ h => ev _ ?_, fun _ h => ⟨W, ev _ ?_, hW'⟩⟩
      · rw [if_neg fun h' => h (hs.1 h')]
        exact Ev.now fun _ => rfl
      · rw [if_pos (hs.2 h)]
        exact Ev.now fun _ => rfl
    · have hpl : ¬ permL n l := fun h => hd (h.2 R hR)
      refine ⟨fun _ => Ev.bind e (Ev.same (g := fun _ => some (0, [], 2)) (fun k => if_neg ?_) (Ev.now fun _ => rfl)), fun h => absurd h hpl, fun h => absurd h hpl⟩
      simp [hd]
theorem concat_eq (a b : List S53) (ha : a.length ≤ 100000) (hb : b.length ≤ 100000) : Ev (fun k => api_Extent_44.f k [a, b]) (a ++ b) := by
  have w1 : wrap64 (0 + 1) = 1 := by rw [w64 (by omega) (by omega)]; rfl
  have w2 : wrap64 (1 + 1) = 2 := by rw [w64 (by omega) (by omega)]; rfl
  have r0 : rd_L2 [a, b] 0 = a := rfl
  have r1 : rd_L2 [a, b] 1 = b := rfl
  refine Ev.same (g := fun k => api_Extent_44.l0 k [a, b] 0 [a, b] 2 0) (fun k => rfl) ?_
  refine Ev.succ (g := fun k => api_Extent_44.l0 k [a, b] (a.length : Int) [a, b] 2 1) (fun k => ?_) (Ev.succ (g := fun k => api_Extent_44.l0 k [a, b] ((a.length : Int) + b.length) [a, b] 2 2) (fun k => ?_) (Ev.succ (g := fun k => api_Extent_44.l1 k [] [a, b] 2 0) (fun k => ?_) (Ev.succ (g := fun k => api_Extent_44.l1 k a [a, b] 2 1) (fun k => ?_) (Ev.succ (g := fun k => api_Extent_44.l1 k (a ++ b) [a, b] 2 2) (fun k => ?_) (Ev.succ (g := fun _ => some (a ++ b)) (fun k => ?_) (Ev.now fun _ => rfl))))))
  · simp only [api_Extent_44.l0]
    rw [if_pos (by decide), if_pos (by decide), if_pos (by simp), r0, w64 (n := 0 + (a.length : Int)) (by omega) (by omega), if_neg (by omega), w1, Int.zero_add]
  · simp only [api_Extent_44.l0]
    rw [if_pos (by decide), if_pos (by decide), if_pos (by simp), r1, w64 (n := (a.length : Int) + (b.length : Int)) (by omega) (by omega), if_neg (by omega), w2]
  · simp only [api_Extent_44.l0, api_Extent_60.f]
    rw [if_neg (by decide), if_pos ⟨by omega, by omega⟩]
    rfl
  · simp only [api_Extent_44.l1]
    rw [if_pos (by decide), if_pos (by decide), if_pos (by simp), r0, w1, if_pos (by simp; omega), List.nil_append]
  · simp only [api_Extent_44.l1]
    rw [if_pos (by decide), if_pos (by decide), if_pos (by simp), r1, w2, if_pos (by omega)]
  · simp only [api_Extent_44.l1]
    rw [if_neg (by decide)]
theorem give_eq {n : Nat} {P : Int → Prop} {rs l : List S53} (hn : n ≤ 65536) (hr : IsRuns P rs) (hP : ∀ t, P t → 0 ≤ t ∧ t < n) (hl : l.length ≤ 1000) :
    (¬ permL n l → Ev (fun k => alloc_Map_Give.f k n rs l) (0, [], 2)) ∧
    (permL n l → (¬ ∀ t, Cov l t → ¬ P t) → Ev (fun k => alloc_Map_Give.f k n rs l) (0, [], 8)) ∧
    (permL n l → (∀ t, Cov l t → ¬ P t) → ∃ R, Ev (fun k => alloc_Map_Give.f k n rs l) ((n : Int), R, 0) ∧ IsRuns (fun t => P t ∨ Cov l t) R) := by
  cases hp : permB n l
  · refine ⟨fun _ => Ev.bind (permitted_no n (by omega) (by omega) rs l hl hp) (Ev.now fun _ => rfl), fun h => ?_, fun h => ?_⟩
    · rw [h.1] at hp
      cases hp
    · rw [h.1] at hp
      cases hp
  · obtain ⟨R, e, hR⟩ := permitted_eq n (by omega) (by omega) rs l hl hp
    have hlR := ro_len hR.1 hR.2.1
    have hlr := ro_len hr.1 hr.2.1
    by_cases hd : lenS R = lenS l
    · have hpl : permL n l := ⟨hp, fun R' h' => by rw [h'.uniq hR fun _ => Iff.rfl]; exact hd⟩
      obtain ⟨W, ew, hW, hnW⟩ := code_runs (rs ++ R) (by rw [List.length_append]; omega)
      have hfil : (rs ++ R).filter oneB = rs ++ R := List.filter_eq_self.2 fun y hy => by
        rcases List.mem_append.1 hy with hy | hy
        · exact runs_one hr.1 hr.2.1 y hy
        · exact runs_one hR.1 hR.2.1 y hy
      rw [hfil] at hW
      have hW' : IsRuns (fun t => P t ∨ Cov l t) W := hW.of fun t => by rw [cov_append, hr.2.2 t, hR.2.2 t]
      have hlW := ro_len hW.1 hW.2.1
      have hc := ro_cov_ok hp
      have hs := add_len hr hR hW' hP hc
      have b1 := runs_le hR hc
      have b2 := runs_le hr hP
      have ev : ∀ r, Ev (fun _ => if lenS W = lenS rs + lenS R then some ((n : Int), W, (0 : Int)) else some (0, [], 8)) r → Ev (fun k => alloc_Map_Give.f k n rs l) r := fun r h => by
        refine Ev.bind e (Ev.same (g := fun k => (api_Extent_44.f k [rs, R]).bind fun t503 => (extent_Runs.f k t503).bind fun t506 => (alloc_size.f k t506).bind fun t509 => (alloc_size.f k rs).bind fun t510 => (alloc_size.f k R).bind fun t511 => if t509 = (wrap64 (t510 + t511)) then some ((n : Int), t506, 0) else some (0, [], 8)) (fun k => if_pos (by rw [hd]; simp)) ?_)
        refine Ev.bind (concat_eq rs R (by omega) (by omega)) (Ev.bind ew (Ev.bind (size_eq W (by omega) (okS_len hW.2.1)) (Ev.bind (size_eq rs (by omega) (okS_len hr.2.1)) (Ev.bind (size_eq R (by omega) (okS_len hR.2.1)) ?_))))
        rw [w64 (n := lenS rs + lenS R) (by omega) (by omega)]
        exact h
      refine ⟨fun h => absurd hpl h, fun _ h => ev _ ?_, fun _ h => ⟨W, ev _ ?_, hW'⟩⟩
      · rw [if_neg fun h' => h (hs.1 h')]
        exact Ev.now fun _ => rfl
      · rw [if_pos (hs.2 h)]
        exact Ev.now fun _ => rfl
    · have hpl : ¬ permL n l := fun h => hd (h.2 R hR)
      refine ⟨fun _ => Ev.bind e (Ev.same (g := fun _ => some (0, [], 2)) (fun k => if_neg ?_) (Ev.now fun _ => rfl)), fun h => absurd h hpl, fun h => absurd h hpl⟩
      simp [hd]
end Go.Proofs.Ytcjpikjbjehjeaa.PAllocB
