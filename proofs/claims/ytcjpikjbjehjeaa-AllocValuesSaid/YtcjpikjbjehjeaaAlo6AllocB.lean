/- Take of both, and what the law's own functions answer of maps that agree. -/
import Derived.Test.YtcjpikjbjehjeaaAlo5AllocB
namespace Go.Proofs.Ytcjpikjbjehjeaa.PAllocB
open Go.RowKit Go.Proofs.YtcjpikjbjehjeaaW.PrintWords
set_option linter.unusedVariables false
set_option linter.unusedSimpArgs false
def numF (m : List Bool) : Int := numP (frB m) 0 m.length
theorem lenS_free {m : List Bool} {rs : List S53} (hr : IsRuns (fr m) rs) : lenS rs = numF m := by
  rw [runs_num (n := m.length) hr fun t h => ⟨h.1, h.2.1⟩]
  refine numP_congr fun t h1 h2 => ?_
  rw [Bool.eq_iff_iff, covB_iff, hr.2.2 t]
  exact ⟨fun h => h.2.2, fun h => ⟨h1, by omega, h⟩⟩
theorem free_ev {m : List Bool} {rs : List S53} (M : Int) (hm : m.length ≤ 99) (hr : IsRuns (fr m) rs) : Ev (fun k => alloc_Map_Free.f k M rs) (numF m) := by
  have hs := runs_short (N := m.length) hr fun t h => h.2.1
  rw [← lenS_free hr]
  exact Ev.bind (size_eq rs (by omega) (okS_len hr.2.1)) (Ev.now fun _ => rfl)
theorem fr_change {m m' : List Bool} {l : List S53} (hl : m'.length = m.length) (h : ∀ t : Int, 0 ≤ t → t < m.length → rdOf false m' t = if covB l t = true then true else rdOf false m t) (t : Int) : fr m' t ↔ fr m t ∧ ¬ Cov l t := by
  unfold fr
  rw [hl]
  constructor
  · rintro ⟨h1, h2, h3⟩
    unfold frB at h3 ⊢
    rw [h t h1 h2] at h3
    by_cases hc : covB l t = true
    · rw [if_pos hc] at h3
      cases h3
    · rw [if_neg hc] at h3
      exact ⟨⟨h1, h2, h3⟩, fun h4 => hc (covB_iff.2 h4)⟩
  · rintro ⟨⟨h1, h2, h3⟩, h4⟩
    refine ⟨h1, h2, ?_⟩
    unfold frB at h3 ⊢
    rw [h t h1 h2, if_neg fun h5 => h4 (covB_iff.1 h5)]
    exact h3
theorem fr_give {m m' : List Bool} {l : List S53} (hl : m'.length = m.length) (hc : ∀ t, Cov l t → 0 ≤ t ∧ t < m.length) (h : ∀ t : Int, 0 ≤ t → t < m.length → rdOf false m' t = if covB l t = true then false else rdOf false m t) (t : Int) : fr m' t ↔ fr m t ∨ Cov l t := by
  unfold fr
  rw [hl]
  constructor
  · rintro ⟨h1, h2, h3⟩
    unfold frB at h3 ⊢
    rw [h t h1 h2] at h3
    by_cases hc : covB l t = true
    · exact .inr (covB_iff.1 hc)
    · rw [if_neg hc] at h3
      exact .inl ⟨h1, h2, h3⟩
  · intro h4
    have h1 : 0 ≤ t ∧ t < m.length := h4.elim (fun h => ⟨h.1, h.2.1⟩) (hc t)
    refine ⟨h1.1, h1.2, ?_⟩
    unfold frB
    rw [h t h1.1 h1.2]
    by_cases h5 : covB l t = true
    · rw [if_pos h5]
      rfl
    · rw [if_neg h5]
      exact h4.elim (fun h => h.2.2) fun h => absurd (covB_iff.2 h) h5
/-- What Take answers, and what it leaves. -/
def TakeOk (m : List Bool) (n h : Int) (l : List S53) (M' : Int) (rs' : List S53) (m' : List Bool) (e : Int) : Prop :=
  (e = 1 ∧ (n < 0 ∨ h < 0 ∨ h > m.length)) ∨ (e = 11 ∧ n > numF m ∧ 0 ≤ h ∧ h ≤ m.length) ∨
  (e = 0 ∧ 0 ≤ n ∧ n ≤ numF m ∧ 0 ≤ h ∧ h ≤ m.length ∧ M' = m'.length ∧ m'.length = m.length ∧ IsRuns (fr m') rs' ∧ (∀ t, fr m' t ↔ fr m t ∧ ¬ Cov l t) ∧ permL m.length l ∧ (∀ t, Cov l t → fr m t) ∧ lenS l = n ∧ (n = 1 → ∃ s, l = [⟨0, 1, s⟩]))
theorem take_eq (m : List Bool) (hm : m.length ≤ 99) (rs : List S53) (hr : IsRuns (fr m) rs) (n h : Int) : ∃ l M' rs' m' e, Ev (fun k => alloc_Map_Take.f k m.length rs n h) (l, M', rs', e) ∧ Ev (fun k => tegularef35_Map_Take.f k m n h) (l, m', e) ∧ l.length ≤ 1000 ∧ TakeOk m n h l M' rs' m' e := by
  have hfc := free_ev m.length hm hr
  have hfd : Ev (fun k => tegularef35_Map_Free.f k m) (numF m) := rfree_eq m (by omega)
  have hb := numP_bound (frB m) m.length 0
  by_cases hbad : n < 0 ∨ h < 0 ∨ h > m.length
  · refine ⟨[], 0, [], [], 1, ?_, ?_, by simp, .inl ⟨rfl, hbad⟩⟩
    · refine Ev.same (g := fun k => alloc_Map_Take.j0 k n h true m.length rs) (fun k => ?_) (Ev.succ (g := fun _ => some ([], 0, [], 1)) (fun k => ?_) (Ev.now fun _ => rfl))
      · unfold alloc_Map_Take.f
        by_cases h1 : n < 0
        · rw [if_pos h1]
        · by_cases h2 : h < 0
          · rw [if_neg h1, if_pos h2]
          · rw [if_neg h1, if_neg h2, decide_eq_true (by omega)]
      · simp only [alloc_Map_Take.j0]
        rw [if_pos trivial]
    · refine Ev.same (g := fun k => tegularef35_Map_Take.j0 k m n h true) (fun k => ?_) (Ev.succ (g := fun _ => some ([], [], 1)) (fun k => ?_) (Ev.now fun _ => rfl))
      · unfold tegularef35_Map_Take.f
        by_cases h1 : n < 0
        · rw [if_pos h1]
        · by_cases h2 : h < 0
          · rw [if_neg h1, if_pos h2]
          · rw [if_neg h1, if_neg h2, decide_eq_true (by omega)]
      · simp only [tegularef35_Map_Take.j0]
        rw [if_pos trivial]
  · have hc : ∀ r, Ev (fun k => alloc_Map_Take.j0 k n h false m.length rs) r → Ev (fun k => alloc_Map_Take.f k m.length rs n h) r := fun r hr => by
      refine Ev.same (fun k => ?_) hr
      unfold alloc_Map_Take.f
      rw [if_neg (by omega), if_neg (by omega), decide_eq_false (by omega)]
    have hd : ∀ r, Ev (fun k => tegularef35_Map_Take.j0 k m n h false) r → Ev (fun k => tegularef35_Map_Take.f k m n h) r := fun r hr => by
      refine Ev.same (fun k => ?_) hr
      unfold tegularef35_Map_Take.f
      rw [if_neg (by omega), if_neg (by omega), decide_eq_false (by omega)]
    have hd2 : ∀ r, Ev (fun k => if n > numF m then some ([], [], 11) else (tegularef35_Map_choose.f k m n h).bind fun t479 => (tegularef35_Map_Mark.f k m t479).bind fun bt482 => some (t479, bt482.1, bt482.2)) r → Ev (fun k => tegularef35_Map_Take.f k m n h) r := fun r hr => by
      refine hd r (Ev.succ (fun k => ?_) (Ev.bind (q := fun k t242 => if n > t242 then some ([], [], 11) else (tegularef35_Map_choose.f k m n h).bind fun t479 => (tegularef35_Map_Mark.f k m t479).bind fun bt482 => some (t479, bt482.1, bt482.2)) hfd hr))
      simp only [tegularef35_Map_Take.j0]
      rw [if_neg (by decide)]
    have hc2 : ∀ r, Ev (fun k => if n > numF m then some ([], 0, [], 11) else if n = 0 then some ([], (m.length : Int), rs, 0) else (alloc_behind.f k m.length rs n h).bind fun b => if b.2 = true then (alloc_Map_Mark.f k m.length rs b.1).bind fun c => some (b.1, c.1, c.2.1, c.2.2) else
        (alloc_anywhere.f m.length rs n h).bind fun b => if b.2 = true then (alloc_Map_Mark.f k m.length rs b.1).bind fun c => some (b.1, c.1, c.2.1, c.2.2) else
        (alloc_pieces.f k m.length rs n h).bind fun b => if b.2 = true then (alloc_Map_Mark.f k m.length rs b.1).bind fun c => some (b.1, c.1, c.2.1, c.2.2) else some ([], 0, [], 11)) r → Ev (fun k => alloc_Map_Take.f k m.length rs n h) r := fun r hr => by
      refine hc r (Ev.succ (fun k => ?_) (Ev.bind (q := fun k t242 => if n > t242 then some ([], 0, [], 11) else if n = 0 then some ([], (m.length : Int), rs, 0) else (alloc_behind.f k m.length rs n h).bind fun b => if b.2 = true then (alloc_Map_Mark.f k m.length rs b.1).bind fun c => some (b.1, c.1, c.2.1, c.2.2) else (alloc_anywhere.f m.length rs n h).bind fun b => if b.2 = true then (alloc_Map_Mark.f k m.length rs b.1).bind fun c => some (b.1, c.1, c.2.1, c.2.2) else (alloc_pieces.f k m.length rs n h).bind fun b => if b.2 = true then (alloc_Map_Mark.f k m.length rs b.1).bind fun c => some (b.1, c.1, c.2.1, c.2.2) else some ([], 0, [], 11)) hfc hr))
      simp only [alloc_Map_Take.j0]
      rw [if_neg (by decide)]
    by_cases hgt : n > numF m
    · exact ⟨[], 0, [], [], 11, hc2 _ (Ev.same (fun k => if_pos hgt) (Ev.now fun _ => rfl)), hd2 _ (Ev.same (fun k => if_pos hgt) (Ev.now fun _ => rfl)), by simp, .inr (.inl ⟨rfl, hgt, by omega, by omega⟩)⟩
    · by_cases hz : n = 0
      · have hpl : permL m.length ([] : List S53) := ⟨rfl, fun R hR => by
          have e : R = [] := hR.uniq ⟨trivial, by simp, fun _ => Iff.rfl⟩ fun _ => Iff.rfl
          rw [e]⟩
        obtain ⟨m', e, hl', hg⟩ := (change_eq m (by omega) [] (by simp) true).2.2 hpl fun t ht => absurd ht (cov_nil _)
        have hfr := fr_change hl' hg
        refine ⟨[], m.length, rs, m', 0, hc2 _ (Ev.same (fun k => by rw [if_neg hgt, if_pos hz]) (Ev.now fun _ => rfl)), hd2 _ (Ev.same (fun k => if_neg hgt) ?_), by simp, .inr (.inr ⟨rfl, by omega, by omega, by omega, by omega, by rw [hl'], hl', hr.of fun t => Iff.trans ⟨fun h => ⟨h, cov_nil _⟩, fun h => h.1⟩ (hfr t).symm, hfr, hpl, fun t ht => absurd ht (cov_nil _), by rw [hz]; rfl, fun h => by omega⟩)⟩
        refine Ev.bind (f := fun k => tegularef35_Map_choose.f k m n h) (r := []) (Ev.now fun k => by unfold tegularef35_Map_choose.f; rw [if_pos hz]) (Ev.bind (Ev.bind e (Ev.now fun _ => rfl)) (Ev.now fun _ => rfl))
      · obtain ⟨l, ⟨q1, q2, q3, q4, q5⟩, ed, ec⟩ := choose_eq m hm rs hr n h (by omega) (by rw [lenS_free hr]; omega) (by omega) (by omega) m.length
        obtain ⟨m', e, hl', hg⟩ := (change_eq m (by omega) l q4 true).2.2 q1 fun t ht => by
          have := (q2 t ht).2.2
          unfold frB at this
          intro h'
          rw [h'] at this
          cases this
        have hfr := fr_change hl' hg
        obtain ⟨R, eR, hR⟩ := (mark_eq (by omega) hr (fun t h => ⟨h.1, h.2.1⟩) q4).2.2 q1 q2
        refine ⟨l, m.length, R, m', 0, hc2 _ (Ev.same (fun k => by rw [if_neg hgt, if_neg hz]) ?_), hd2 _ (Ev.same (fun k => if_neg hgt) (Ev.bind ed (Ev.bind (Ev.bind e (Ev.now fun _ => rfl)) (Ev.now fun _ => rfl)))), q4, .inr (.inr ⟨rfl, by omega, by omega, by omega, by omega, by rw [hl'], hl', hR.of fun t => (hfr t).symm, hfr, q1, q2, q3, q5⟩)⟩
        have hM : Ev (fun k => (alloc_Map_Mark.f k m.length rs l).bind fun c => some (l, c.1, c.2.1, c.2.2)) (l, (m.length : Int), R, 0) := Ev.bind eR (Ev.now fun _ => rfl)
        rcases ec with e1 | ⟨e1, e2⟩ | ⟨e1, e2, e3⟩
        · exact Ev.bind e1 (Ev.same (fun k => if_pos rfl) hM)
        · exact Ev.bind e1 (Ev.same (fun k => if_neg (by simp)) (Ev.bind e2 (Ev.same (fun k => if_pos rfl) hM)))
        · exact Ev.bind e1 (Ev.same (fun k => if_neg (by simp)) (Ev.bind e2 (Ev.same (fun k => if_neg (by simp)) (Ev.bind e3 (Ev.same (fun k => if_pos rfl) hM)))))
theorem u64w {n : Int} (h0 : 0 ≤ n) (h1 : n ≤ 9223372036854775807) : IntKind.u64.wrap n = n := by
  have : IntKind.u64.wrap n = n % 18446744073709551616 := rfl
  rw [this]
  omega
theorem ro_sorted : ∀ {l : List S53} {c : Int}, RO c l → l.Pairwise fun a b => a.f2 < b.f2
  | [], _, _ => .nil
  | x :: l, c, ⟨_, h1, h2, h3⟩ => .cons (fun y hy => by have := ro_mem h3 y hy; omega) (ro_sorted h3)
theorem rd_nat (l : List S53) (q : Nat) (h : q < l.length) : rd_T53 l (q : Int) = l[q] := by
  unfold rd_T53
  rw [Int.toNat_natCast, List.getD_eq_getElem?_getD, List.getElem?_eq_getElem h]
  rfl
theorem bs_loop {l : List S53} {s : Int} (hs : l.Pairwise fun a b => a.f2 < b.f2) (hl : l.length ≤ 1000000) : ∀ (d i j : Nat), j = i + d → j ≤ l.length → (∀ q (hq : q < l.length), q < i → l[q].f2 < s) → (∀ q (hq : q < l.length), j ≤ q → s ≤ l[q].f2) →
    ∃ (i' : Nat) (fd : Bool), Ev (fun k => api_Extent_int.l0 k l s (l.length : Int) (i : Int) (j : Int)) ((i' : Int), fd) ∧ i' ≤ l.length ∧ (∀ q (hq : q < l.length), q < i' → l[q].f2 < s) ∧ (∀ q (hq : q < l.length), i' ≤ q → s ≤ l[q].f2) ∧ (fd = true ↔ ∃ hq : i' < l.length, l[i'].f2 = s) := by
  intro d
  induction d using Nat.strongRecOn with
  | ind d IH =>
    intro i j hj hjl hlo hhi
    by_cases hd : d = 0
    · subst hd
      have hij : i = j := by omega
      subst hij
      by_cases hi : i < l.length
      · refine ⟨i, (cmpI l[i].f2 s == 0), Ev.succ (g := fun _ => some ((i : Int), (cmpI l[i].f2 s == 0))) (fun k => ?_) (Ev.now fun _ => rfl), by omega, hlo, hhi, ?_⟩
        · simp only [api_Extent_int.l0, alloc_Map_Is_1.f]
          rw [if_neg (by omega), if_pos (by omega), if_pos (by omega), if_pos (by omega), rd_nat l i hi]
          rfl
        · have := hhi i hi (Nat.le_refl _)
          unfold cmpI
          constructor
          · intro h
            refine ⟨hi, ?_⟩
            split at h
            · simp at h
            · split at h
              · simp at h
              · omega
          · rintro ⟨_, h⟩
            rw [if_neg (by omega), if_neg (by omega)]
            rfl
      · refine ⟨i, false, Ev.succ (g := fun _ => some ((i : Int), false)) (fun k => ?_) (Ev.now fun _ => rfl), by omega, hlo, hhi, ?_⟩
        · simp only [api_Extent_int.l0]
          rw [if_neg (by omega), if_neg (by omega)]
        · exact ⟨fun h => (by cases h), fun ⟨h, _⟩ => absurd h hi⟩
    · have hh : wrap64 ((IntKind.u64.wrap (wrap64 ((i : Int) + j))) / 2) = (((i + j) / 2 : Nat) : Int) := by
        rw [w64 (n := (i : Int) + j) (by omega) (by omega), u64w (by omega) (by omega), w64 (by omega) (by omega)]
        omega
      generalize hg : (i + j) / 2 = g at hh
      have g1 : i ≤ g ∧ g < j := by omega
      have hgl : g < l.length := by omega
      have hun : ∀ k, api_Extent_int.l0 (k + 1) l s (l.length : Int) (i : Int) (j : Int) = if cmpI l[g].f2 s < 0 then api_Extent_int.l0 k l s (l.length : Int) ((g + 1 : Nat) : Int) (j : Int) else api_Extent_int.l0 k l s (l.length : Int) (i : Int) (g : Int) := fun k => by
        simp only [api_Extent_int.l0, alloc_Map_Is_1.f]
        rw [if_pos (by omega), hh, if_pos (by omega), if_pos (by omega), rd_nat l g hgl, w64 (n := (g : Int) + 1) (by omega) (by omega)]
        rfl
      have hmono := List.pairwise_iff_getElem.1 hs
      by_cases hc : l[g].f2 < s
      · obtain ⟨i', fd, e, r⟩ := IH (j - (g + 1)) (by omega) (g + 1) j (by omega) hjl (fun q hq h => by
          by_cases he : q = g
          · subst he
            exact hc
          · have := hmono q g hq hgl (by omega)
            omega) hhi
        refine ⟨i', fd, Ev.succ (fun k => ?_) e, r⟩
        rw [hun k, if_pos (by unfold cmpI; rw [if_pos hc]; decide)]
      · obtain ⟨i', fd, e, r⟩ := IH (g - i) (by omega) i g (by omega) (by omega) hlo (fun q hq h => by
          by_cases he : q = g
          · subst he
            omega
          · have := hmono g q hgl hq (by omega)
            omega)
        refine ⟨i', fd, Ev.succ (fun k => ?_) e, r⟩
        rw [hun k, if_neg (by unfold cmpI; rw [if_neg hc]; split <;> decide)]
theorem ro_gap : ∀ {l : List S53} {c : Int}, RO c l → ∀ p q (hp : p < l.length) (hq : q < l.length), p < q → l[p].f2 + l[p].f1 < l[q].f2
  | x :: l, c, ⟨_, h1, h2, h3⟩, 0, q + 1, _, hq, _ => by
    simp only [List.getElem_cons_zero, List.getElem_cons_succ]
    exact ro_mem h3 _ (List.getElem_mem _)
  | x :: l, c, ⟨_, h1, h2, h3⟩, p + 1, q + 1, hp, hq, h => by
    simp only [List.getElem_cons_succ]
    exact ro_gap h3 p q (by simpa using hp) (by simpa using hq) (by omega)
theorem is_eq (M : Int) {l : List S53} (hr : RO (-1) l) (ho : ∀ x ∈ l, OkS x) (hl : l.length ≤ 1000000) (s : Int) : Ev (fun k => alloc_Map_Is.f k M l s) (covB l s) := by
  obtain ⟨i', fd, e, hi, hlo, hhi, hfd⟩ := bs_loop (s := s) (ro_sorted hr) hl l.length 0 l.length (by omega) (Nat.le_refl _) (fun q _ h => by omega) (fun q hq h => by omega)
  have e' : Ev (fun k => api_Extent_int.f k l s) ((i' : Int), fd) := e
  refine Ev.bind e' ?_
  have hcov : ∀ q (hq : q < l.length), l[q].f2 ≤ s → s < l[q].f2 + l[q].f1 → covB l s = true := fun q hq h1 h2 => covB_iff.2 ⟨l[q], List.getElem_mem _, h1, h2⟩
  by_cases hf : fd = true
  · obtain ⟨hq, h⟩ := hfd.1 hf
    have o1 := (ho _ (List.getElem_mem hq)).2.1
    rw [hcov i' hq (by omega) (by omega)]
    exact Ev.same (fun k => if_pos hf) (Ev.now fun _ => rfl)
  · have hnf : ∀ hq : i' < l.length, l[i'].f2 ≠ s := fun hq h => hf (hfd.2 ⟨hq, h⟩)
    have hab : ∀ q (hq : q < l.length), i' ≤ q → s < l[q].f2 := fun q hq h => by
      by_cases he : q = i'
      · subst he
        have := hhi q hq h
        have := hnf hq
        omega
      · have h1 := hhi i' (by omega) (Nat.le_refl _)
        have h2 := ro_gap hr i' q (by omega) hq (by omega)
        have o1 := (ho _ (List.getElem_mem (by omega : i' < l.length))).2.1
        omega
    refine Ev.same (fun k => if_neg hf) ?_
    by_cases hz : i' = 0
    · subst hz
      have hc : covB l s = false := Bool.eq_false_iff.2 fun h => by
        obtain ⟨x, hx, h1, h2⟩ := covB_iff.1 h
        obtain ⟨q, hq, rfl⟩ := List.getElem_of_mem hx
        have := hab q hq (by omega)
        omega
      rw [hc]
      exact Ev.same (fun k => if_neg (by simp)) (Ev.now fun _ => rfl)
    · have hw : wrap64 ((i' : Int) - 1) = ((i' - 1 : Nat) : Int) := by
        rw [w64 (by omega) (by omega)]
        omega
      have hq : i' - 1 < l.length := by omega
      obtain ⟨o0, o1, o2⟩ := ho _ (List.getElem_mem hq)
      have hlow := hlo (i' - 1) hq (by omega)
      refine Ev.same (g := fun _ => some (decide (s < l[i' - 1].f2 + l[i' - 1].f1))) (fun k => ?_) (Ev.now fun _ => ?_)
      · simp only [alloc_end.f]
        rw [if_pos (by omega), hw, if_pos (by omega), if_pos (by omega), rd_nat l (i' - 1) hq, w64 (n := l[i' - 1].f2 + l[i' - 1].f1) (by omega) (by omega)]
        rfl
      · congr 1
        rw [Bool.eq_iff_iff, decide_eq_true_iff]
        constructor
        · intro h
          exact hcov (i' - 1) hq (by omega) h
        · intro h
          obtain ⟨x, hx, h1, h2⟩ := covB_iff.1 h
          obtain ⟨q, hq', rfl⟩ := List.getElem_of_mem hx
          by_cases h3 : i' ≤ q
          · have := hab q hq' h3
            omega
          · by_cases h4 : q = i' - 1
            · subst h4
              exact h2
            · have := ro_gap hr q (i' - 1) hq' hq (by omega)
              omega
theorem large_loop : ∀ (rest pre : List S53) (acc : Int), (pre ++ rest).length ≤ 1000000 → Ev (fun k => alloc_Map_Largest.l0 k acc (pre ++ rest) ((pre ++ rest).length : Int) (pre.length : Int)) (rest.foldl (fun a x => mx a x.f1) acc)
  | [], pre, acc, _ => by
    refine Ev.succ (g := fun _ => some acc) (fun k => ?_) (Ev.now fun _ => rfl)
    simp only [alloc_Map_Largest.l0, List.append_nil]
    rw [if_neg (by omega)]
  | x :: rest, pre, acc, hlen => by
    have hnext := next_mid pre x rest (by omega)
    have ih := large_loop rest (pre ++ [x]) (mx acc x.f1) (by simpa using hlen)
    rw [List.append_assoc, List.singleton_append] at ih
    refine Ev.succ (fun k => ?_) ih
    simp only [alloc_Map_Largest.l0]
    rw [if_pos (len_mid pre x rest), if_pos (by omega), if_pos (len_mid pre x rest), rd_mid, hnext]
theorem rlarge_loop : ∀ (rest pre : List S53) (acc : Int), (pre ++ rest).length ≤ 1000000 → Ev (fun k => tegularef35_Map_Largest.l0 k acc (pre ++ rest) (pre.length : Int)) (rest.foldl (fun a x => mx a x.f1) acc)
  | [], pre, acc, _ => by
    refine Ev.succ (g := fun _ => some acc) (fun k => ?_) (Ev.now fun _ => rfl)
    simp only [tegularef35_Map_Largest.l0, List.append_nil]
    rw [if_neg (by omega)]
  | x :: rest, pre, acc, hlen => by
    have hnext := next_mid pre x rest (by omega)
    have ih := rlarge_loop rest (pre ++ [x]) (mx acc x.f1) (by simpa using hlen)
    rw [List.append_assoc, List.singleton_append] at ih
    refine Ev.succ (fun k => ?_) ih
    simp only [tegularef35_Map_Largest.l0]
    rw [if_pos (len_mid pre x rest), if_pos (by omega), rd_mid, hnext]
theorem rruns_eq {m : List Bool} {rs : List S53} (hm : m.length ≤ 99) (hr : IsRuns (fr m) rs) : Ev (fun k => tegularef35_Map_Runs.f k m) rs := by
  obtain ⟨R, e, hR⟩ := some_eq m (by omega) 0 m.length m.length (by omega) (by omega) (Int.le_refl _)
  have : R = rs := hR.uniq hr fun t => by
    constructor
    · rintro ⟨h1, h2, h3, _⟩
      exact ⟨h1, h2, h3⟩
    · rintro ⟨h1, h2, h3⟩
      have := (numP_bound (frB m) (t - 0).toNat 0).2
      exact ⟨h1, h2, h3, by omega⟩
  rw [this] at e
  exact Ev.bind e (Ev.now fun _ => rfl)
theorem cov_free {m : List Bool} {rs : List S53} (hr : IsRuns (fr m) rs) {s : Int} (h0 : 0 ≤ s) (h1 : s < m.length) : covB rs s = frB m s := by
  rw [Bool.eq_iff_iff, covB_iff, hr.2.2 s]
  exact ⟨fun h => h.2.2, fun h => ⟨h0, h1, h⟩⟩
theorem same_loop {m : List Bool} {rs : List S53} (M : Int) (hm : m.length ≤ 99) (hr : IsRuns (fr m) rs) : ∀ (d : Nat) (s : Int), 0 ≤ s → s + d = m.length → Ev (fun k => tegulalaw35_same.l0 k m s M rs) true
  | 0, s, h0, h1 => by
    refine Ev.succ (g := fun _ => some true) (fun k => ?_) (Ev.now fun _ => rfl)
    simp only [tegulalaw35_same.l0]
    rw [if_neg (by omega)]
  | d + 1, s, h0, h1 => by
    have hs := runs_short (N := m.length) hr fun t h => h.2.1
    have ih := same_loop M hm hr d (s + 1) (by omega) (by omega)
    refine Ev.succ (g := fun k => (alloc_Map_Is.f k M rs s).bind fun t430 => if 0 ≤ s then (if (t430 == rdOf false m s) = true then some false else tegulalaw35_same.l0 k m (s + 1) M rs) else none) (fun k => ?_) (Ev.bind (is_eq M hr.1 hr.2.1 (by omega) s) (Ev.same (fun k => ?_) ih))
    · simp only [tegulalaw35_same.l0]
      rw [if_pos (by omega), w64 (n := s + 1) (by omega) (by omega)]
    · rw [if_pos h0, if_neg]
      rw [cov_free hr h0 (by omega)]
      unfold frB
      cases rdOf false m s <;> decide
theorem same_true {m : List Bool} {rs : List S53} (hm : m.length ≤ 99) (hr : IsRuns (fr m) rs) : Ev (fun k => tegulalaw35_same.f k m.length rs m) true := by
  have hs := runs_short (N := m.length) hr fun t h => h.2.1
  have hno : ∀ s, ¬ (0 ≤ s ∧ s < (m.length : Int)) → covB rs s = false := fun s h => Bool.eq_false_iff.2 fun h' => by
    have := (hr.2.2 s).1 (covB_iff.1 h')
    exact h ⟨this.1, this.2.1⟩
  refine Ev.bind (Ev.now (r := (m.length : Int)) fun _ => rfl) (Ev.ite (fun _ => ?_) (fun h => absurd rfl h))
  refine Ev.bind (free_ev m.length hm hr) (Ev.bind (f := fun k => tegularef35_Map_Free.f k m) (r := numF m) (rfree_eq m (by omega)) (Ev.ite (fun _ => ?_) (fun h => absurd rfl h)))
  refine Ev.bind (f := fun k => alloc_Map_Largest.f k m.length rs) (large_loop rs [] 0 (by simp; omega)) (Ev.bind (f := fun k => tegularef35_Map_Largest.f k m) (Ev.bind (rruns_eq hm hr) (rlarge_loop rs [] 0 (by simp; omega))) (Ev.ite (fun _ => ?_) (fun h => absurd rfl h)))
  refine Ev.bind (f := fun k => alloc_Map_Runs.f m.length rs) (r := rs) (Ev.now fun _ => by unfold alloc_Map_Runs.f api_Extent_32.f; rw [if_pos (by omega)]; rfl) (Ev.bind (rruns_eq hm hr) (Ev.bind (same_refl rs (by omega)) (Ev.ite (fun _ => ?_) (fun h => absurd rfl h))))
  have e1 := is_eq m.length hr.1 hr.2.1 (by omega) (-1)
  rw [hno (-1) (by omega)] at e1
  have e2 := is_eq m.length hr.1 hr.2.1 (by omega) m.length
  rw [hno m.length (by omega)] at e2
  refine Ev.bind e1 (Ev.ite (fun h => absurd h (by decide)) (fun _ => Ev.bind e2 ?_))
  refine Ev.succ (fun k => ?_) (same_loop m.length hm hr m.length 0 (by omega) (by omega))
  simp only [tegulalaw35_same.j0]
  rw [if_neg (by decide)]
end Go.Proofs.Ytcjpikjbjehjeaa.PAllocB
