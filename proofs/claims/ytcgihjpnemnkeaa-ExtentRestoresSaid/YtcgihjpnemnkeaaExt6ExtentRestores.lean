/- Lists of extents: two normal forms that map alike are one; where a block is found behind Cut and Put. -/
import Derived.Test.YtcgihjpnemnkeaaExt5ExtentRestores
import Derived.Test.YtcgihjpnemnkeaaExt4ExtentRestores
namespace Go.Proofs.Ytcgihjpnemnkeaa.PExtentRestores
open Go.RowKit Go.Proofs.YtcgihjpnemnkeaaW.PrintWords

/-- No two neighbors could be one. -/
def NM : List S33 → Prop
  | [] => True
  | [_] => True
  | x :: y :: l => ¬ (x.f0 + x.f1 = y.f0 ∧ x.f2 + x.f1 = y.f2) ∧ NM (y :: l)
theorem NM.tail {x : S33} {l : List S33} (h : NM (x :: l)) : NM l := by
  cases l with
  | nil => trivial
  | cons y l => exact h.2
theorem nm_push {l : List S33} {x : S33} (h : NM l) : NM (push l x) := by
  induction l with
  | nil => trivial
  | cons y l ih =>
    cases l with
    | nil =>
      rw [show [y] = [] ++ [y] from rfl, push_snoc]
      split
      · trivial
      · rename_i hc
        exact ⟨hc, trivial⟩
    | cons z l =>
      have h2 := ih h.2
      rcases last_cases (z :: l) with e | ⟨m, w, e⟩
      · simp at e
      · have e1 : push (y :: z :: l) x = y :: push (z :: l) x := by rw [e]; exact push_app [y] m x w
        rw [e1]
        have h1 := h.1
        cases l with
        | nil =>
          rw [show [z] = [] ++ [z] from rfl, push_snoc] at h2 ⊢
          split
          · exact ⟨h1, trivial⟩
          · rename_i hc
            exact ⟨h1, hc, trivial⟩
        | cons u l =>
          rcases last_cases (u :: l) with e' | ⟨m', w', e'⟩
          · simp at e'
          · have e2 : push (z :: u :: l) x = z :: push (u :: l) x := by rw [e']; exact push_app [z] m' x w'
            rw [e2] at h2 ⊢
            exact ⟨h1, h2⟩
theorem nm_foldl {l : List S33} : ∀ {acc : List S33}, NM acc → NM (l.foldl push acc) := by
  induction l with
  | nil => intro acc h; exact h
  | cons x l ih => intro acc h; exact ih (nm_push h)
theorem joinL_nm (l : List S33) : NM (joinL l) := nm_foldl (acc := []) trivial

theorem findL_lt : ∀ {l : List S33} {b t : Int}, Val b l → t < b → findL l t = none
  | [], _, _, _, _ => rfl
  | x :: l, b, t, ⟨h1, h2, h3⟩, h => by
    unfold Ok at h1
    simp only [findL]
    rw [if_neg (by omega)]
    exact findL_lt h3 (by omega)
theorem findL_head {x : S33} {l : List S33} {t : Int} (h : x.f0 ≤ t ∧ t < x.f0 + x.f1) : findL (x :: l) t = some (x.f2 + t - x.f0) := by
  simp only [findL]
  rw [if_pos h]
theorem findL_tail {x : S33} {l : List S33} {t : Int} (h : ¬ (x.f0 ≤ t ∧ t < x.f0 + x.f1)) : findL (x :: l) t = findL l t := by
  simp only [findL]
  rw [if_neg h]
theorem nf_len {x y : S33} {l m : List S33} {b : Int} (h1 : Val b (x :: l)) (h2 : Val b (y :: m)) (n1 : NM (x :: l)) (h0 : x.f0 = y.f0) (hs : x.f2 = y.f2) (he : ∀ t, findL (x :: l) t = findL (y :: m) t) : ¬ x.f1 < y.f1 := by
  intro hlt
  have ox := h1.1
  have oy := h2.1
  unfold Ok at ox oy
  have e := he (x.f0 + x.f1)
  rw [findL_tail (by omega), findL_head (x := y) (by omega)] at e
  cases l with
  | nil => simp [findL] at e
  | cons z l =>
    have hz := h1.2.2
    have oz := hz.1
    unfold Ok at oz
    have hz1 := hz.2.1
    by_cases hc : z.f0 ≤ x.f0 + x.f1
    · have hze : z.f0 = x.f0 + x.f1 := by omega
      rw [findL_head (by omega)] at e
      have e' := Option.some.inj e
      exact n1.1 ⟨hze.symm, by omega⟩
    · rw [findL_lt (b := z.f0) (show Val z.f0 (z :: l) from ⟨hz.1, Int.le_refl _, hz.2.2⟩) (by omega)] at e
      cases e
/-- Two normal forms that map the same blocks to the same slots are one. -/
theorem nf_unique : ∀ {l m : List S33} {b : Int}, Val b l → Val b m → NM l → NM m → (∀ t, findL l t = findL m t) → l = m
  | [], [], _, _, _, _, _, _ => rfl
  | [], y :: m, b, _, h2, _, _, he => by
    have oy := h2.1
    unfold Ok at oy
    have := he y.f0
    rw [findL_head (by omega)] at this
    cases this
  | x :: l, [], b, h1, _, _, _, he => by
    have ox := h1.1
    unfold Ok at ox
    have := he x.f0
    rw [findL_head (by omega)] at this
    cases this
  | x :: l, y :: m, b, h1, h2, n1, n2, he => by
    have ox := h1.1
    have oy := h2.1
    unfold Ok at ox oy
    have h0 : x.f0 = y.f0 := by
      rcases Int.lt_trichotomy x.f0 y.f0 with h | h | h
      · have := he x.f0
        rw [findL_head (by omega), findL_lt (b := y.f0) (show Val y.f0 (y :: m) from ⟨h2.1, Int.le_refl _, h2.2.2⟩) h] at this
        cases this
      · exact h
      · have := he y.f0
        rw [findL_head (x := y) (by omega), findL_lt (b := x.f0) (show Val x.f0 (x :: l) from ⟨h1.1, Int.le_refl _, h1.2.2⟩) h] at this
        cases this
    have hs : x.f2 = y.f2 := by
      have := he x.f0
      rw [findL_head (by omega), findL_head (x := y) (by omega)] at this
      have := Option.some.inj this
      omega
    have hl : x.f1 = y.f1 := by
      have a1 := nf_len h1 h2 n1 h0 hs he
      have a2 := nf_len h2 h1 n2 h0.symm hs.symm (fun t => (he t).symm)
      omega
    have hxy : x = y := s33_ext.2 ⟨h0, hl, hs⟩
    subst hxy
    congr 1
    refine nf_unique h1.2.2 h2.2.2 n1.tail n2.tail (fun t => ?_)
    by_cases hc : x.f0 ≤ t ∧ t < x.f0 + x.f1
    · rw [findL_lt h1.2.2 (by omega), findL_lt h2.2.2 (by omega)]
    · have := he t
      rwa [findL_tail hc, findL_tail hc] at this

theorem findL_partL {x : S33} (a b t : Int) : findL (partL x a b) t = if a ≤ t ∧ t < b then findL [x] t else none := by
  unfold partL
  simp only [findL]
  split
  · simp only [findL]
    unfold partE
    simp only
    by_cases h : a ≤ t ∧ t < b
    · rw [if_pos h]
      by_cases h2 : x.f0 ≤ t ∧ t < x.f0 + x.f1
      · rw [if_pos h2, if_pos (by omega)]
        congr 1; omega
      · rw [if_neg h2, if_neg (by omega)]
    · rw [if_neg h, if_neg (by omega)]
  · rename_i hc
    simp only [findL]
    by_cases h : a ≤ t ∧ t < b
    · rw [if_pos h, if_neg (by omega)]
    · rw [if_neg h]
theorem findL_cons (x : S33) (l : List S33) (t : Int) : findL (x :: l) t = (findL [x] t).or (findL l t) := findL_append [x] l t
theorem findL_parts (a b t : Int) : ∀ (l : List S33), findL (partsL l a b) t = if a ≤ t ∧ t < b then findL l t else none
  | [] => by simp [findL]
  | x :: l => by
    rw [partsL_cons, findL_append, findL_partL, findL_parts a b t l, findL_cons x l]
    split <;> simp
theorem findL_range : ∀ {l : List S33} {b t : Int}, Val b l → findL l t ≠ none → b ≤ t ∧ t < 65536
  | [], _, _, _, h => absurd rfl h
  | x :: l, b, t, ⟨h1, h2, h3⟩, h => by
    unfold Ok at h1
    by_cases hc : x.f0 ≤ t ∧ t < x.f0 + x.f1
    · omega
    · rw [findL_tail hc] at h
      have := findL_range h3 h
      omega
theorem findL_rest {l : List S33} {a b : Int} (hv : Val 0 l) (hb : a ≤ b) (t : Int) : findL (restL l a b) t = if a ≤ t ∧ t < b then none else findL l t := by
  rw [restL_parts hv hb, findL_append, findL_parts, findL_parts]
  by_cases hn : findL l t = none
  · rw [hn]; simp
  · have := findL_range hv hn
    by_cases h : a ≤ t ∧ t < b
    · rw [if_pos h, if_neg (by omega), if_neg (by omega)]; rfl
    · rw [if_neg h]
      by_cases h2 : t < a
      · rw [if_pos (by omega)]
        cases hf : findL l t with
        | none => exact absurd hf hn
        | some v => rfl
      · rw [if_neg (by omega), if_pos (by omega)]; rfl
theorem findL_put {l : List S33} {x : S33} (hv : Val 0 l) (t : Int) : findL (partsL l 0 x.f0 ++ x :: partsL l (x.f0 + x.f1) 65536) t = if x.f0 ≤ t ∧ t < x.f0 + x.f1 then some (x.f2 + t - x.f0) else findL l t := by
  rw [findL_append, findL_cons, findL_parts, findL_parts]
  by_cases h : x.f0 ≤ t ∧ t < x.f0 + x.f1
  · rw [if_pos h, if_neg (by omega)]
    simp only [findL]
    rw [if_pos h]
    rfl
  · rw [if_neg h]
    have h1 : findL [x] t = none := by simp only [findL]; rw [if_neg h]
    rw [h1]
    by_cases hn : findL l t = none
    · rw [hn]; simp
    · have := findL_range hv hn
      by_cases h2 : t < x.f0
      · rw [if_pos (by omega)]
        cases hf : findL l t with
        | none => exact absurd hf hn
        | some v => rfl
      · rw [if_neg (by omega), if_pos (by omega)]; rfl
/-- Put's list, normal, and what it maps. -/
theorem put_facts {l : List S33} {x : S33} (hv : Val 0 l) (hx : Ok x) : ∃ a r, putL l x = (a, r, 0) ∧ Val 0 a ∧ NM a ∧ (∀ t, findL a t = if x.f0 ≤ t ∧ t < x.f0 + x.f1 then some (x.f2 + t - x.f0) else findL l t) ∧
    Val 0 r ∧ NM r ∧ (∀ t, findL r t = if x.f0 ≤ t ∧ t < x.f0 + x.f1 then findL l t else none) := by
  refine ⟨joinL (partsL l 0 x.f0 ++ x :: partsL l (x.f0 + x.f1) 65536), joinL (partsL l x.f0 (x.f0 + x.f1)), ?_, joinL_val (put_val hv hx), joinL_nm _, fun t => ?_, joinL_val (partsL_val hv), joinL_nm _, fun t => ?_⟩
  · unfold putL
    rw [if_pos ⟨valB_iff.2 hv, okB_iff.2 hx⟩]
  · rw [findL_join (put_val hv hx), findL_put hv]
  · rw [findL_join (partsL_val hv), findL_parts]
theorem cut_facts {l : List S33} {a n : Int} (hv : Val 0 l) (ha : 0 ≤ a) (hn : 0 ≤ n) (h : a + n ≤ 65536) : ∃ q r, cutL l a n = (q, r, 0) ∧ Val 0 q ∧ NM q ∧ (∀ t, findL q t = if a ≤ t ∧ t < a + n then none else findL l t) ∧
    Val 0 r ∧ NM r ∧ (∀ t, findL r t = if a ≤ t ∧ t < a + n then findL l t else none) := by
  have hp := rest_val (a := a) (b := a + n) hv (by omega) (by omega)
  rw [← restL_parts hv (by omega)] at hp
  refine ⟨joinL (restL l a (a + n)), joinL (partsL l a (a + n)), ?_, joinL_val hp, joinL_nm _, fun t => ?_, joinL_val (partsL_val hv), joinL_nm _, fun t => ?_⟩
  · unfold cutL
    rw [if_pos ⟨valB_iff.2 hv, rangeB_iff.2 ⟨ha, hn, h⟩⟩]
  · rw [findL_join hp, findL_rest hv (by omega)]
  · rw [findL_join (partsL_val hv), findL_parts]
end Go.Proofs.Ytcgihjpnemnkeaa.PExtentRestores
