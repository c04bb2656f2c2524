/- A step of a script and a whole script: both maps go together. -/
import Derived.Test.YtcjpikjbjehjeaaAlo6AllocB
namespace Go.Proofs.Ytcjpikjbjehjeaa.PAllocB
open Go.RowKit Go.Proofs.YtcjpikjbjehjeaaW.PrintWords
set_option linter.unusedVariables false
set_option linter.unusedSimpArgs false
theorem Ev.shift {α : Type} {f : Nat → Option α} {r : α} (h : Ev (fun k => f (k + 1)) r) : Ev f r := Ev.succ (fun _ => rfl) h
/-- Maps that go together. -/
def Tog (m : List Bool) (M' : Int) (rs' : List S53) (m' : List Bool) : Prop := M' = m'.length ∧ m'.length = m.length ∧ IsRuns (fr m') rs'
theorem mark_both (m : List Bool) (hm : m.length ≤ 99) (rs : List S53) (hr : IsRuns (fr m) rs) (l : List S53) (hl : l.length ≤ 1000) : ∃ M' rs' m' e, Ev (fun k => alloc_Map_Mark.f k m.length rs l) (M', rs', e) ∧ Ev (fun k => tegularef35_Map_Mark.f k m l) (m', e) ∧ (e = 0 → Tog m M' rs' m') := by
  obtain ⟨c1, c2, c3⟩ := mark_eq (n := m.length) (by omega) hr (fun t h => ⟨h.1, h.2.1⟩) hl
  obtain ⟨d1, d2, d3⟩ := change_eq m (by omega) l hl true
  have hd : ∀ {p}, Ev (fun k => tegularef35_Map_change.f k m l true) p → Ev (fun k => tegularef35_Map_Mark.f k m l) p := fun h => Ev.bind h (Ev.now fun _ => rfl)
  by_cases hp : permL m.length l
  · by_cases hs : ∀ t, Cov l t → fr m t
    · obtain ⟨R, e, hR⟩ := c3 hp hs
      obtain ⟨m', e', hl', hg⟩ := d3 hp fun t ht h' => by
        have := (hs t ht).2.2
        unfold frB at this
        rw [h'] at this
        cases this
      exact ⟨_, _, _, _, e, hd e', fun _ => ⟨by rw [hl'], hl', hR.of fun t => (fr_change hl' hg t).symm⟩⟩
    · refine ⟨_, _, _, _, c2 hp hs, hd (d2 hp ?_), fun h => absurd h (by decide)⟩
      refine Classical.byContradiction fun hn => hs fun t ht => ?_
      have hb := ro_cov_ok hp.1 t ht
      refine ⟨hb.1, hb.2, ?_⟩
      unfold frB
      cases hx : rdOf false m t
      · rfl
      · exact absurd ⟨t, ht, hx⟩ hn
  · exact ⟨_, _, _, _, c1 hp, hd (d1 hp), fun h => absurd h (by decide)⟩
theorem give_both (m : List Bool) (hm : m.length ≤ 99) (rs : List S53) (hr : IsRuns (fr m) rs) (l : List S53) (hl : l.length ≤ 1000) : ∃ M' rs' m' e, Ev (fun k => alloc_Map_Give.f k m.length rs l) (M', rs', e) ∧ Ev (fun k => tegularef35_Map_Give.f k m l) (m', e) ∧ (e = 0 → Tog m M' rs' m') := by
  obtain ⟨c1, c2, c3⟩ := give_eq (n := m.length) (by omega) hr (fun t h => ⟨h.1, h.2.1⟩) hl
  obtain ⟨d1, d2, d3⟩ := change_eq m (by omega) l hl false
  have hd : ∀ {p}, Ev (fun k => tegularef35_Map_change.f k m l false) p → Ev (fun k => tegularef35_Map_Give.f k m l) p := fun h => Ev.bind h (Ev.now fun _ => rfl)
  by_cases hp : permL m.length l
  · have hc := ro_cov_ok hp.1
    by_cases hs : ∀ t, Cov l t → ¬ fr m t
    · obtain ⟨R, e, hR⟩ := c3 hp hs
      obtain ⟨m', e', hl', hg⟩ := d3 hp fun t ht h' => hs t ht ⟨(hc t ht).1, (hc t ht).2, by unfold frB; rw [h']; rfl⟩
      exact ⟨_, _, _, _, e, hd e', fun _ => ⟨by rw [hl'], hl', hR.of fun t => (fr_give hl' hc hg t).symm⟩⟩
    · refine ⟨_, _, _, _, c2 hp hs, hd (d2 hp ?_), fun h => absurd h (by decide)⟩
      refine Classical.byContradiction fun hn => hs fun t ht hf => hn ⟨t, ht, ?_⟩
      have := hf.2.2
      unfold frB at this
      cases hx : rdOf false m t
      · rfl
      · rw [hx] at this
        cases this
  · exact ⟨_, _, _, _, c1 hp, hd (d1 hp), fun h => absurd h (by decide)⟩
theorem take_both (m : List Bool) (hm : m.length ≤ 99) (rs : List S53) (hr : IsRuns (fr m) rs) (n h : Int) : ∃ l M' rs' m' e, Ev (fun k => alloc_Map_Take.f k m.length rs n h) (l, M', rs', e) ∧ Ev (fun k => tegularef35_Map_Take.f k m n h) (l, m', e) ∧ l.length ≤ 1000 ∧ (e = 0 → Tog m M' rs' m') := by
  obtain ⟨l, M', rs', m', e, h1, h2, h3, h4⟩ := take_eq m hm rs hr n h
  refine ⟨l, M', rs', m', e, h1, h2, h3, fun he => ?_⟩
  rcases h4 with ⟨h5, _⟩ | ⟨h5, _⟩ | ⟨_, _, _, _, _, h6, h7, h8, _⟩
  · omega
  · omega
  · exact ⟨h6, h7, h8⟩
theorem step_end (m m' : List Bool) (e : Int) (l : List S53) (hl : l.length ≤ 1000) (M : Int) (rs : List S53) (M' : Int) (rs' : List S53) : Ev (fun k => tegulalaw35_step.j1 k m m' e e l l M rs M' rs') (if e = 0 then (M', rs', m', true) else (M, rs, m, true)) := by
  refine Ev.succ (g := fun k => (tegularef32_Same.f k l l).bind fun t559 => tegulalaw35_step.j2 k m m' e (!t559) M rs M' rs') (fun k => ?_) (Ev.bind (same_refl l (by omega)) ?_)
  · simp only [tegulalaw35_step.j1]
    rw [if_pos trivial]
  · refine Ev.succ (g := fun _ => some (if e = 0 then (M', rs', m', true) else (M, rs, m, true))) (fun k => ?_) (Ev.now fun _ => rfl)
    simp only [tegulalaw35_step.j2]
    rw [if_neg (by decide)]
    split <;> rfl
theorem step_eq (m : List Bool) (hm : m.length ≤ 99) (rs : List S53) (hr : IsRuns (fr m) rs) (kd n h : Int) (l : List S53) (hl : l.length ≤ 1000) :
    ∃ rs' m', Ev (fun k => tegulalaw35_step.f k m.length rs m kd n h l) ((m'.length : Int), rs', m', true) ∧ m'.length = m.length ∧ IsRuns (fr m') rs' := by
  suffices hj : ∀ (b : Bool), ∃ rs' m', Ev (fun k => tegulalaw35_step.j0 k m l [] [] (Int.tmod kd 4) b m.length rs kd n h l) ((m'.length : Int), rs', m', true) ∧ m'.length = m.length ∧ IsRuns (fr m') rs' by
    obtain ⟨rs', m', e, r⟩ := hj (if Int.tmod kd 4 = 0 then (Int.tmod kd 4 == 0) else (Int.tmod kd 4 == 1))
    refine ⟨rs', m', Ev.same (fun k => ?_) e, r⟩
    unfold tegulalaw35_step.f
    simp only [Option.bind_some, List.nil_append, List.length_nil]
    rw [if_pos (by omega)]
    split <;> rfl
  intro b
  have fin : ∀ {M' : Int} {rs' : List S53} {m' : List Bool} {e : Int}, (e = 0 → Tog m M' rs' m') → ∃ rs1 m1, (if e = 0 then (M', rs', m', true) else ((m.length : Int), rs, m, true)) = ((m1.length : Int), rs1, m1, true) ∧ m1.length = m.length ∧ IsRuns (fr m1) rs1 := fun {M' rs' m' e} h => by
    by_cases he : e = 0
    · obtain ⟨h1, h2, h3⟩ := h he
      rw [if_pos he, h1]
      exact ⟨rs', m', rfl, h2, h3⟩
    · rw [if_neg he]
      exact ⟨rs, m, rfl, rfl, hr⟩
  by_cases hb : b = true
  · subst hb
    obtain ⟨l1, M', rs', m', e, e1, e2, hl1, ht⟩ := take_both m hm rs hr (wrap64 n) (wrap64 h)
    obtain ⟨rs1, m1, heq, r⟩ := fin ht
    have hend := step_end m m' e l1 hl1 m.length rs M' rs'
    rw [heq] at hend
    refine ⟨rs1, m1, Ev.shift ?_, r⟩
    simp only [tegulalaw35_step.j0]
    exact Ev.same (fun k => if_pos trivial) (Ev.bind e1 (Ev.bind e2 hend))
  · by_cases h2 : Int.tmod kd 4 = 2
    · obtain ⟨M', rs', m', e, e1, e2, ht⟩ := mark_both m hm rs hr l hl
      obtain ⟨rs1, m1, heq, r⟩ := fin ht
      have hend := step_end m m' e [] (by simp) m.length rs M' rs'
      rw [heq] at hend
      refine ⟨rs1, m1, Ev.shift ?_, r⟩
      simp only [tegulalaw35_step.j0]
      exact Ev.same (fun k => by rw [if_neg hb, if_pos h2]) (Ev.bind e1 (Ev.bind e2 hend))
    · obtain ⟨M', rs', m', e, e1, e2, ht⟩ := give_both m hm rs hr l hl
      obtain ⟨rs1, m1, heq, r⟩ := fin ht
      have hend := step_end m m' e [] (by simp) m.length rs M' rs'
      rw [heq] at hend
      refine ⟨rs1, m1, Ev.shift ?_, r⟩
      simp only [tegulalaw35_step.j0]
      exact Ev.same (fun k => by rw [if_neg hb, if_neg h2]) (Ev.bind e1 (Ev.bind e2 hend))
theorem rs_mid (pre : List S57) (x : S57) (rest : List S57) : rd_T57 (pre ++ x :: rest) (pre.length : Int) = x := by simp [rd_T57, List.getD]
theorem li_mid {α : Type} (pre : List α) (x : α) (rest : List α) : (pre.length : Int) < ((pre ++ x :: rest).length : Int) := by simp; omega
theorem ni_mid {α : Type} (pre : List α) (x : α) (rest : List α) (h : (pre ++ x :: rest).length ≤ 9223372036854775807) : wrap64 ((pre.length : Int) + 1) = ((pre ++ [x]).length : Int) := by
  simp at h
  rw [w64 (by omega) (by omega)]
  simp
def fewB (l : List S57) : Bool := (l.all fun x => decide (x.f3.length ≤ 8)) && decide (l.length ≤ 25)
theorem few_loop : ∀ (rest pre : List S57), (pre ++ rest).length ≤ 9223372036854775807 → Ev (fun k => tegulalaw35_few.l0 k (pre ++ rest) (pre.length : Int)) ((rest.all fun x => decide (x.f3.length ≤ 8)) && decide ((pre ++ rest).length ≤ 25))
  | [], pre, _ => Ev.succ (g := fun _ => some (decide (pre.length ≤ 25))) (fun k => by simp only [tegulalaw35_few.l0, List.append_nil]; rw [if_neg (by omega)]; congr 1; exact decide_eq_decide.2 (by omega)) (Ev.now fun _ => by simp)
  | x :: rest, pre, hlen => by
    have ih := few_loop rest (pre ++ [x]) (by rw [List.append_assoc]; exact hlen)
    rw [List.append_assoc, List.singleton_append] at ih
    rw [List.all_cons]
    by_cases h : x.f3.length ≤ 8
    · rw [decide_eq_true h, Bool.true_and]
      refine Ev.succ (fun k => ?_) ih
      simp only [tegulalaw35_few.l0]
      rw [if_pos (li_mid pre x rest), if_pos (by omega), rs_mid, if_neg (by omega), ni_mid pre x rest hlen]
    · rw [decide_eq_false h, Bool.false_and, Bool.false_and]
      refine Ev.succ (g := fun _ => some false) (fun k => ?_) (Ev.now fun _ => rfl)
      simp only [tegulalaw35_few.l0]
      rw [if_pos (li_mid pre x rest), if_pos (by omega), rs_mid, if_pos (by omega)]
theorem few_eq (l : List S57) (hl : l.length ≤ 9223372036854775807) : Ev (fun k => tegulalaw35_few.f k l) (fewB l) := by
  have := few_loop l [] (by simpa using hl)
  exact this
theorem fewB_iff {l : List S57} : fewB l = true ↔ (∀ x ∈ l, x.f3.length ≤ 8) ∧ l.length ≤ 25 := by simp [fewB, List.all_eq_true]
theorem build_loop : ∀ (rest pre : List S57) (m : List Bool) (rs : List S53), m.length ≤ 99 → IsRuns (fr m) rs → (∀ x ∈ rest, x.f3.length ≤ 8) → (pre ++ rest).length ≤ 1000 →
    ∃ m' rs', Ev (fun k => tegulalaw35_build.l0 k (pre ++ rest) m true (pre.length : Int) m.length rs) ((m'.length : Int), rs', m', true) ∧ m'.length = m.length ∧ IsRuns (fr m') rs'
  | [], pre, m, rs, hm, hr, _, _ => by
    refine ⟨m, rs, ?_, rfl, hr⟩
    refine Ev.shift ?_
    simp only [tegulalaw35_build.l0, List.append_nil]
    refine Ev.ite (fun h => absurd h (by omega)) (fun _ => Ev.ite (fun _ => ?_) (fun h => absurd trivial h))
    exact Ev.bind (same_true hm hr) (Ev.now fun _ => rfl)
  | x :: rest, pre, m, rs, hm, hr, hf, hlen => by
    have hx := hf x List.mem_cons_self
    have hlen' := hlen
    simp only [List.length_append, List.length_cons] at hlen'
    obtain ⟨rs1, m1, e1, hl1, hr1⟩ := step_eq m hm rs hr x.f0 x.f1 x.f2 x.f3 (by omega)
    obtain ⟨m', rs', e2, hl2, hr2⟩ := build_loop rest (pre ++ [x]) m1 rs1 (by omega) hr1 (fun y hy => hf y (List.mem_cons_of_mem _ hy)) (by rw [List.append_assoc]; exact hlen)
    rw [List.append_assoc, List.singleton_append] at e2
    have hnext := ni_mid pre x rest (by omega)
    refine ⟨m', rs', Ev.succ (g := fun k => (tegulalaw35_step.f k m.length rs m x.f0 x.f1 x.f2 x.f3).bind fun b => tegulalaw35_build.l0 k (pre ++ x :: rest) b.2.2.1 b.2.2.2 ((pre ++ [x]).length : Int) b.1 b.2.1) (fun k => ?_) (Ev.bind e1 e2), hl2.trans hl1, hr2⟩
    simp only [tegulalaw35_build.l0]
    rw [if_pos (li_mid pre x rest), if_pos trivial, if_pos (by omega), rs_mid, hnext]
theorem build_eq (a0 : Int) (l : List S57) (h0 : 0 ≤ a0) (_h1 : a0 ≤ 255) (hf : fewB l = true) : ∃ m rs, Ev (fun k => tegulalaw35_build.f k a0 l) ((m.length : Int), rs, m, true) ∧ m.length ≤ 99 ∧ IsRuns (fr m) rs := by
  obtain ⟨hf1, hf2⟩ := fewB_iff.1 hf
  have hm : wrap64 (Int.tmod a0 100) = a0 % 100 := by
    rw [Int.tmod_eq_emod_of_nonneg h0, w64 (by omega) (by omega)]
  obtain ⟨N, hN⟩ : ∃ N : Nat, a0 % 100 = N := ⟨(a0 % 100).toNat, by omega⟩
  have hN1 : N ≤ 99 := by omega
  rw [hN] at hm
  have hlen : (List.replicate N false).length = N := List.length_replicate
  have hfr : ∀ t, fr (List.replicate N false) t ↔ 0 ≤ t ∧ t < N := fun t => by
    unfold fr
    rw [hlen]
    refine ⟨fun h => ⟨h.1, h.2.1⟩, fun h => ⟨h.1, h.2, ?_⟩⟩
    unfold frB rdOf
    rw [List.getD_eq_getElem?_getD, List.getElem?_replicate, if_pos (by omega)]
    rfl
  have hrs : IsRuns (fr (List.replicate N false)) (if (N : Int) = 0 then ([] : List S53) else [⟨0, N, 0⟩]) := by
    by_cases hz : (N : Int) = 0
    · rw [if_pos hz]
      exact ⟨trivial, by simp, fun t => ⟨fun h => absurd h (cov_nil _), fun h => by have := (hfr t).1 h; omega⟩⟩
    · rw [if_neg hz]
      refine ⟨⟨rfl, by show (-1 : Int) < 0; omega, by show (1 : Int) ≤ N; omega, trivial⟩, fun x hx => ?_, fun t => ?_⟩
      · rw [List.mem_singleton.1 hx]
        exact ⟨Int.le_refl _, by show (1 : Int) ≤ N; omega, by show (0 : Int) + N ≤ 65536; omega⟩
      · rw [cov_one, hfr t]
        simp only
        omega
  obtain ⟨m', rs', e, hl, hr⟩ := build_loop l [] (List.replicate N false) _ (by omega) hrs hf1 (by simp; omega)
  rw [hlen] at hl e
  refine ⟨m', rs', ?_, by omega, hr⟩
  have en : Ev (fun k => alloc_New.f k N) ((N : Int), (if (N : Int) = 0 then ([] : List S53) else [⟨0, N, 0⟩]), 0) := by
    refine Ev.same (g := fun k => alloc_New.j0 k N false) (fun k => ?_) (Ev.succ (g := fun _ => some ((N : Int), (if (N : Int) = 0 then ([] : List S53) else [⟨0, N, 0⟩]), 0)) (fun k => ?_) (Ev.now fun _ => rfl))
    · unfold alloc_New.f
      rw [if_neg (by omega), decide_eq_false (by omega)]
    · simp only [alloc_New.j0]
      rw [if_neg (by decide)]
      by_cases h : (N : Int) = 0
      · rw [if_pos h, if_pos h, h]
      · rw [if_neg h, if_neg h]
  have er : tegularef35_New.f N = some (List.replicate N false, 0) := by
    unfold tegularef35_New.f
    rw [if_neg (by omega), if_neg (by omega), if_pos (by omega), if_pos (by omega), Int.toNat_natCast]
  refine Ev.bind (f := fun k => alloc_New.f k (wrap64 (Int.tmod a0 100))) (Ev.same (fun k => by rw [hm]) en) (Ev.bind (f := fun _ => tegularef35_New.f (wrap64 (Int.tmod a0 100))) (Ev.now fun _ => by rw [hm]; exact er) ?_)
  exact e
theorem awake_ev : Ev (fun k => tegulalaw35_awake.f k) true := Ev.of_mono (fun k => tegulalaw35_awake.mono k) tegulalaw35_awake.at_
end Go.Proofs.Ytcjpikjbjehjeaa.PAllocB
