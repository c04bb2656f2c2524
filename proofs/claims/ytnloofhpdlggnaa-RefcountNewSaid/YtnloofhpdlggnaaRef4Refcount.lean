/- Used, Total, Of, Same, same, few, build: the code and the document agree. -/
import Derived.Test.YtnloofhpdlggnaaRef3Refcount
namespace Go.Proofs.Ytnloofhpdlggnaa.PRefcount
open Go.RowKit Go.Proofs.YtnloofhpdlggnaaW.PrintWords
theorem Ev.shift {α : Type} {f : Nat → Option α} {r : α} (h : Ev (fun k => f (k + 1)) r) : Ev f r := Ev.succ (fun _ => rfl) h
theorem Ev.ex {α : Type} {f : Nat → Option α} {r : α} (h : Ev f r) : ∃ k, f k = some r := by
  obtain ⟨k0, hk⟩ := h
  exact ⟨k0, hk k0 (Nat.le_refl _)⟩
theorem ri_mid (pre : List Int) (x : Int) (rest : List Int) : rd (pre ++ x :: rest) (pre.length : Int) = x := by simp [rd, List.getD]
theorem li_mid {α : Type} (pre : List α) (x : α) (rest : List α) : (pre.length : Int) < ((pre ++ x :: rest).length : Int) := by simp; omega
theorem ni_mid {α : Type} (pre : List α) (x : α) (rest : List α) (h : (pre ++ x :: rest).length ≤ 9223372036854775807) : wrap64 ((pre.length : Int) + 1) = ((pre ++ [x]).length : Int) := by
  simp only [List.length_append, List.length_cons, List.length_nil] at h ⊢
  rw [w64 (by omega) (by omega)]
  omega
theorem Inv.nonneg {B : Int} {c : List Int} (h : Inv B c) : ∀ x ∈ c, 0 ≤ x ∧ x ≤ B := fun x hx => by
  obtain ⟨t, h0, h1, e⟩ := mem_rd.1 hx
  rw [← e]
  exact h.2 t h0 h1
theorem inv_zero (n : Nat) (hn : n ≤ 65536) : Inv 0 (List.replicate n 0) := by
  refine ⟨by rw [List.length_replicate]; exact hn, fun t h0 h1 => ?_⟩
  have hm : rd (List.replicate n 0) t ∈ List.replicate n (0 : Int) := mem_rd.2 ⟨t, h0, h1, rfl⟩
  rw [List.eq_of_mem_replicate hm]
  omega
theorem used_loop : ∀ (rest pre : List Int) (acc : Int), (pre ++ rest).length ≤ 1000000000 → (∀ x ∈ rest, 0 ≤ x) → 0 ≤ acc → acc + rest.length ≤ 2000000000 → Ev (fun k => tegularef34_Counts_Used.l0 k (pre ++ rest) acc (pre.length : Int)) (rest.foldl stpUsed acc)
  | [], pre, acc, _, _, _, _ => Ev.succ (g := fun _ => some acc) (fun k => by simp only [tegularef34_Counts_Used.l0, List.append_nil]; rw [if_neg (by omega)]) (Ev.now fun _ => rfl)
  | x :: rest, pre, acc, hlen, h0, h1, h2 => by
    have hx := h0 x List.mem_cons_self
    rw [List.length_cons] at h2
    have hs : stpUsed acc x = if x > 0 then acc + 1 else acc := by
      unfold stpUsed mn
      by_cases hp : x > 0
      · rw [if_pos hp]
        by_cases hq : 1 < x
        · rw [if_pos hq, w64 (by omega) (by omega)]
        · rw [if_neg hq, w64 (by omega) (by omega)]
          omega
      · rw [if_neg hp, if_neg (by omega), w64 (by omega) (by omega)]
        omega
    have ih := used_loop rest (pre ++ [x]) (stpUsed acc x) (by rw [List.append_assoc]; exact hlen) (fun y hy => h0 y (List.mem_cons_of_mem _ hy)) (by rw [hs]; split <;> omega) (by rw [hs]; split <;> omega)
    rw [List.append_assoc, List.singleton_append] at ih
    rw [List.foldl_cons]
    refine Ev.succ (fun k => ?_) ih
    simp only [tegularef34_Counts_Used.l0]
    rw [if_pos (li_mid pre x rest), if_pos (by omega), ri_mid, ni_mid pre x rest (by omega), hs]
    by_cases hp : x > 0
    · rw [if_pos hp, if_pos hp, w64 (by omega) (by omega)]
    · rw [if_neg hp, if_neg hp]
theorem total_loop : ∀ (rest pre : List Int) (acc : Int), (pre ++ rest).length ≤ 1000000000 → Ev (fun k => tegularef34_Counts_Total.l0 k (pre ++ rest) acc (pre.length : Int)) (rest.foldl stpTotal acc)
  | [], pre, acc, _ => Ev.succ (g := fun _ => some acc) (fun k => by simp only [tegularef34_Counts_Total.l0, List.append_nil]; rw [if_neg (by omega)]) (Ev.now fun _ => rfl)
  | x :: rest, pre, acc, hlen => by
    have ih := total_loop rest (pre ++ [x]) (stpTotal acc x) (by rw [List.append_assoc]; exact hlen)
    rw [List.append_assoc, List.singleton_append] at ih
    rw [List.foldl_cons]
    refine Ev.succ (fun k => ?_) ih
    simp only [tegularef34_Counts_Total.l0]
    rw [if_pos (li_mid pre x rest), if_pos (by omega), ri_mid, ni_mid pre x rest (by omega)]
    rfl
theorem code_Used (c : List Int) (h : c.length ≤ 1000000000) : refcount_Counts_Used.f c = some (c.foldl stpUsed 0) := by unfold refcount_Counts_Used.f; exact if_pos h
theorem code_Total (c : List Int) (h : c.length ≤ 1000000000) : refcount_Counts_Total.f c = some (c.foldl stpTotal 0) := by unfold refcount_Counts_Total.f; exact if_pos h
theorem same_refl_loop (a : List S41) (ha : a.length ≤ 2000000000) : ∀ (n : Nat) (s : Int), 0 ≤ s → s + n = a.length → Ev (fun k => tegularef32_Same.l0 k a a s) true
  | 0, s, h0, h1 => Ev.succ (g := fun _ => some true) (fun k => by simp only [tegularef32_Same.l0]; rw [if_neg (by omega)]) (Ev.now fun _ => rfl)
  | n + 1, s, h0, h1 => by
    refine Ev.succ (fun k => ?_) (same_refl_loop a ha n (s + 1) (by omega) (by omega))
    simp only [tegularef32_Same.l0]
    rw [if_pos (by omega), if_pos h0, if_pos (by omega), if_neg (by simp), w64 (by omega) (by omega)]
theorem same_refl (a : List S41) (ha : a.length ≤ 2000000000) : Ev (fun k => tegularef32_Same.f k a a) true := by
  refine Ev.same (fun k => ?_) (same_refl_loop a ha a.length 0 (by omega) (by omega))
  unfold tegularef32_Same.f
  rw [if_pos rfl]
def ofV (c : List Int) (s : Int) : Int := if 0 ≤ s ∧ s < c.length then rd c s else 0
theorem code_Of (c : List Int) (s : Int) : refcount_Counts_Of.f c s = some (ofV c s) := by
  unfold refcount_Counts_Of.f ofV
  by_cases h0 : s < 0
  · rw [if_pos h0, if_neg (by omega)]
  · rw [if_neg h0]
    by_cases h1 : s ≥ (c.length : Int)
    · rw [if_pos h1, if_neg (by omega)]
    · rw [if_neg h1, if_pos (by omega), if_pos (by omega), if_pos (by omega)]
theorem ref_Of (c : List Int) (s : Int) : tegularef34_Counts_Of.f c s = some (ofV c s) := by
  unfold tegularef34_Counts_Of.f ofV
  by_cases h0 : s < 0
  · rw [if_pos h0, if_neg (by omega)]
  · rw [if_neg h0]
    by_cases h1 : s ≥ (c.length : Int)
    · rw [if_pos h1, if_neg (by omega)]
    · rw [if_neg h1, if_pos (by omega), if_pos (by omega), if_pos (by omega)]
theorem of_loop (c : List Int) (hc : c.length ≤ 65536) : ∀ (n : Nat) (s : Int), -1 ≤ s → s + n = c.length + 1 → Ev (fun k => tegulalaw34_same.l0 k c s c) true
  | 0, s, h0, h1 => Ev.succ (g := fun _ => some true) (fun k => by simp only [tegulalaw34_same.l0]; rw [if_neg (by omega)]) (Ev.now fun _ => rfl)
  | n + 1, s, h0, h1 => by
    refine Ev.succ (fun k => ?_) (of_loop c hc n (s + 1) (by omega) (by omega))
    simp only [tegulalaw34_same.l0]
    rw [if_pos (by omega), code_Of, ref_Of]
    simp only [Option.bind_some]
    rw [if_pos trivial, w64 (by omega) (by omega)]
theorem same_true {B : Int} {c : List Int} (hI : Inv B c) : Ev (fun k => tegulalaw34_same.f k c c) true := by
  have hc := hI.1
  obtain ⟨R, e, e', hR, hl⟩ := Zero_eq c hc
  have hu := used_loop c [] 0 (by simp; omega) (fun x hx => (hI.nonneg x hx).1) (by omega) (by omega)
  have ht := total_loop c [] 0 (by simp; omega)
  refine Ev.bind (Ev.now (r := (c.length : Int)) fun _ => rfl) ?_
  refine Ev.ite (fun _ => ?_) (fun h => absurd rfl h)
  refine Ev.bind (Ev.now fun _ => code_Used c (by omega)) ?_
  refine Ev.bind (f := fun k => tegularef34_Counts_Used.f k c) hu ?_
  refine Ev.ite (fun _ => ?_) (fun h => absurd rfl h)
  refine Ev.bind (Ev.now fun _ => code_Total c (by omega)) ?_
  refine Ev.bind (f := fun k => tegularef34_Counts_Total.f k c) ht ?_
  refine Ev.ite (fun _ => ?_) (fun h => absurd rfl h)
  refine Ev.bind e ?_
  refine Ev.bind e' ?_
  refine Ev.bind (same_refl R (by omega)) ?_
  refine Ev.succ (g := fun k => tegulalaw34_same.l0 k c (-1) c) (fun k => ?_) (of_loop c hc (c.length + 2) (-1) (by omega) (by omega))
  simp only [tegulalaw34_same.j0]
  rw [if_neg (by decide)]
theorem rs_mid (pre : List S57) (x : S57) (rest : List S57) : rd_T57 (pre ++ x :: rest) (pre.length : Int) = x := by simp [rd_T57, List.getD]
def fewB (l : List S57) : Bool := (l.all fun x => decide (x.f1.length ≤ 8)) && decide (l.length ≤ 20)
theorem few_loop : ∀ (rest pre : List S57), (pre ++ rest).length ≤ 9223372036854775807 → Ev (fun k => tegulalaw34_few.l0 k (pre ++ rest) (pre.length : Int)) ((rest.all fun x => decide (x.f1.length ≤ 8)) && decide ((pre ++ rest).length ≤ 20))
  | [], pre, _ => Ev.succ (g := fun _ => some (decide (pre.length ≤ 20))) (fun k => by simp only [tegulalaw34_few.l0, List.append_nil]; rw [if_neg (by omega)]; congr 1; exact decide_eq_decide.2 (by omega)) (Ev.now fun _ => by simp)
  | x :: rest, pre, hlen => by
    have ih := few_loop rest (pre ++ [x]) (by rw [List.append_assoc]; exact hlen)
    rw [List.append_assoc, List.singleton_append] at ih
    rw [List.all_cons]
    by_cases h : x.f1.length ≤ 8
    · rw [decide_eq_true h, Bool.true_and]
      refine Ev.succ (fun k => ?_) ih
      simp only [tegulalaw34_few.l0]
      rw [if_pos (li_mid pre x rest), if_pos (by omega), rs_mid, if_neg (by omega), ni_mid pre x rest hlen]
    · rw [decide_eq_false h, Bool.false_and, Bool.false_and]
      refine Ev.succ (g := fun _ => some false) (fun k => ?_) (Ev.now fun _ => rfl)
      simp only [tegulalaw34_few.l0]
      rw [if_pos (li_mid pre x rest), if_pos (by omega), rs_mid, if_pos (by omega)]
theorem few_eq (l : List S57) (hl : l.length ≤ 9223372036854775807) : Ev (fun k => tegulalaw34_few.f k l) (fewB l) := by
  have := few_loop l [] (by simpa using hl)
  exact this
theorem fewB_iff {l : List S57} : fewB l = true ↔ (∀ x ∈ l, x.f1.length ≤ 8) ∧ l.length ≤ 20 := by simp [fewB, List.all_eq_true]
theorem build_loop : ∀ (rest pre : List S57) (c : List Int) (B : Int), Inv B c → 0 ≤ B → B + 8 * rest.length ≤ 1000 → (∀ x ∈ rest, x.f1.length ≤ 8) → (pre ++ rest).length ≤ 1000 →
    ∃ c', Ev (fun k => tegulalaw34_build.l0 k (pre ++ rest) c (pre.length : Int) c) (c', c', true) ∧ Inv (B + 8 * rest.length) c' ∧ c'.length = c.length
  | [], pre, c, B, hI, _, hB, _, _ => by
    refine ⟨c, ?_, hI.mono (by simp), rfl⟩
    refine Ev.shift ?_
    simp only [tegulalaw34_build.l0, List.append_nil]
    refine Ev.ite (fun h => absurd h (by omega)) (fun _ => ?_)
    exact Ev.bind (same_true hI) (Ev.now fun _ => rfl)
  | x :: rest, pre, c, B, hI, h0, hB, hf, hlen => by
    have hx := hf x List.mem_cons_self
    have hlen' := hlen
    simp only [List.length_append, List.length_cons] at hlen' hB
    have hIn : Inv (B + 8) c := hI.mono (by omega)
    have IH := fun c1 (h : Inv (B + 8) c1) => build_loop rest (pre ++ [x]) c1 (B + 8) h (by omega) (by omega) (fun y hy => hf y (List.mem_cons_of_mem _ hy)) (by rw [List.append_assoc]; exact hlen)
    rw [List.append_assoc, List.singleton_append] at IH
    have hnext := ni_mid pre x rest (by omega)
    suffices hs : ∃ c1, Inv (B + 8) c1 ∧ c1.length = c.length ∧ ∀ r, Ev (fun k => tegulalaw34_build.l0 k (pre ++ x :: rest) c1 ((pre ++ [x]).length : Int) c1) r → Ev (fun k => tegulalaw34_build.l0 k (pre ++ x :: rest) c (pre.length : Int) c) r by
      obtain ⟨c1, h1, h2, h3⟩ := hs
      obtain ⟨c', e, hI', hl'⟩ := IH c1 h1
      exact ⟨c', h3 _ e, hI'.mono (by rw [List.length_cons]; omega), hl'.trans h2⟩
    have hstep : ∀ r, Ev (fun k => if x.f0 = true then ((refcount_Counts_Drop.f k c x.f1).bind fun bt334 => ((tegularef34_Counts_Drop.f k c x.f1).bind fun bt342 => (if bt334.2.2 = bt342.2.2 then ((tegularef32_Same.f k bt334.2.1 bt342.2.1).bind fun t349 => (tegulalaw34_build.j1 k (pre ++ x :: rest) c (pre.length : Int) bt334.2.2 bt342.1 (!t349) c bt334.1)) else (tegulalaw34_build.j1 k (pre ++ x :: rest) c (pre.length : Int) bt334.2.2 bt342.1 true c bt334.1)))) else ((refcount_Counts_Add.f k c x.f1).bind fun bt350 => ((tegularef34_Counts_Add.f k c x.f1).bind fun bt355 => (if bt350.2 = bt355.2 then (if bt350.2 = 0 then (tegulalaw34_build.l0 k (pre ++ x :: rest) bt355.1 ((pre ++ [x]).length : Int) bt350.1) else (tegulalaw34_build.l0 k (pre ++ x :: rest) c ((pre ++ [x]).length : Int) c)) else (some (c, c, false)))))) r → Ev (fun k => tegulalaw34_build.l0 k (pre ++ x :: rest) c (pre.length : Int) c) r := fun r h => by
      refine Ev.succ (fun k => ?_) h
      simp only [tegulalaw34_build.l0]
      rw [if_pos (li_mid pre x rest), rs_mid, hnext]
      simp only [Option.bind_some, List.nil_append, List.length_nil]
      rw [if_pos (by omega), if_pos (by omega)]
    by_cases hd : x.f0 = true
    · obtain ⟨r1, e1, e2, hl1, hz, _⟩ := Drop_eq c x.f1 hI (by omega) (by omega)
      refine ⟨if r1.2.2 = 0 then r1.1 else c, ?_, ?_, fun r h => hstep r (Ev.ite (fun _ => ?_) (fun h => absurd hd h))⟩
      · by_cases h : r1.2.2 = 0
        · rw [if_pos h]
          exact (hz h).1.mono (by omega)
        · rw [if_neg h]
          exact hIn
      · by_cases h : r1.2.2 = 0
        · rw [if_pos h, (hz h).2.1, chg_len]
        · rw [if_neg h]
      · refine Ev.bind e1 (Ev.bind e2 (Ev.ite (fun _ => ?_) (fun h => absurd rfl h)))
        refine Ev.bind (same_refl r1.2.1 (by omega)) (Ev.succ (fun k => ?_) h)
        simp only [tegulalaw34_build.j1]
        rw [if_neg (by decide), hnext]
        by_cases h : r1.2.2 = 0
        · rw [if_pos h, if_pos h]
        · rw [if_neg h, if_neg h]
    · have e1 := code_Add c x.f1 (by have := hI.1; omega) (by omega)
      have e2 := ref_Add c x.f1 (by have := hI.1; omega) (by omega)
      by_cases hp : permB (c.length : Int) x.f1 = true
      · have ha : addO x.f1 c = (chg 1 x.f1 c, 0) := if_pos hp
        rw [ha] at e1 e2
        refine ⟨chg 1 x.f1 c, (hI.add (by omega) (by omega) hp).mono (by omega), chg_len _ _ _, fun r h => hstep r (Ev.ite (fun h => absurd h hd) (fun _ => ?_))⟩
        refine Ev.bind e1 (Ev.bind e2 (Ev.ite (fun _ => ?_) (fun h => absurd rfl h)))
        exact Ev.ite (fun _ => h) (fun h => absurd rfl h)
      · have ha : addO x.f1 c = ([], 2) := if_neg hp
        rw [ha] at e1 e2
        refine ⟨c, hIn, rfl, fun r h => hstep r (Ev.ite (fun h => absurd h hd) (fun _ => ?_))⟩
        refine Ev.bind e1 (Ev.bind e2 (Ev.ite (fun _ => ?_) (fun h => absurd rfl h)))
        exact Ev.ite (fun h => absurd h (by decide)) (fun _ => h)
theorem new_code (n : Int) (h0 : 0 ≤ n) (h1 : n ≤ 65536) : refcount_New.f n = some (List.replicate n.toNat 0, 0) := by
  unfold refcount_New.f
  rw [if_neg (by omega), if_neg (by omega), if_pos h0, if_pos (by omega)]
theorem new_ref (n : Int) (h0 : 0 ≤ n) (h1 : n ≤ 65536) : tegularef34_New.f n = some (List.replicate n.toNat 0, 0) := by
  unfold tegularef34_New.f
  rw [if_neg (by omega), if_neg (by omega), if_pos h0, if_pos (by omega)]
theorem build_eq (a0 : Int) (l : List S57) (h0 : 0 ≤ a0) (_h1 : a0 ≤ 255) (hf : fewB l = true) : ∃ c, Ev (fun k => tegulalaw34_build.f k a0 l) (c, c, true) ∧ Inv 160 c ∧ c.length ≤ 99 := by
  obtain ⟨hf1, hf2⟩ := fewB_iff.1 hf
  have hm : wrap64 (Int.tmod a0 100) = a0 % 100 := by
    rw [Int.tmod_eq_emod_of_nonneg h0, w64 (by omega) (by omega)]
  obtain ⟨c, e, hI, hl⟩ := build_loop l [] (List.replicate (a0 % 100).toNat 0) 0 (inv_zero _ (by omega)) (by omega) (by omega) hf1 (by simp; omega)
  refine ⟨c, ?_, hI.mono (by omega), by rw [hl, List.length_replicate]; omega⟩
  refine Ev.bind (Ev.now fun _ => by rw [hm]; exact new_code _ (by omega) (by omega)) (Ev.bind (Ev.now fun _ => by rw [hm]; exact new_ref _ (by omega) (by omega)) ?_)
  exact Ev.ite (fun _ => e) (fun h => absurd rfl h)
theorem awake_ev : Ev (fun k => tegulalaw34_awake.f k) true := Ev.of_mono (fun k => tegulalaw34_awake.mono k) tegulalaw34_awake.at_
end Go.Proofs.Ytnloofhpdlggnaa.PRefcount
