/- Take: the code and the document choose the same slots, and leave the same map. -/
import Derived.Test.YtcjpikjbjehjeaaAlo4AllocB
namespace Go.Proofs.Ytcjpikjbjehjeaa.PAllocB
open Go.RowKit Go.Proofs.YtcjpikjbjehjeaaW.PrintWords
set_option linter.unusedVariables false
set_option linter.unusedSimpArgs false
def roomP (m : List Bool) (s n : Int) : Prop := ∀ u, s ≤ u → u < s + n → fr m u
theorem room_loop (m : List Bool) (hm : m.length ≤ 65536) (s0 n : Int) (h0 : 0 ≤ s0) (h1 : s0 ≤ m.length) (hn0 : 0 ≤ n) (hn : n ≤ 1000000) : ∀ (d : Nat) (t : Int), s0 ≤ t → t + d = s0 + n →
    ((∀ u, t ≤ u → u < t + d → fr m u) → Ev (fun k => tegularef35_Map_room.l0 k m s0 n t) true) ∧ ((∃ u, t ≤ u ∧ u < t + d ∧ ¬ fr m u) → Ev (fun k => tegularef35_Map_room.l0 k m s0 n t) false)
  | 0, t, h2, h3 => by
    refine ⟨fun _ => Ev.succ (g := fun _ => some true) (fun k => ?_) (Ev.now fun _ => rfl), fun ⟨u, h4, h5, _⟩ => by omega⟩
    simp only [tegularef35_Map_room.l0]
    rw [w64 (n := s0 + n) (by omega) (by omega), if_neg (by omega)]
  | d + 1, t, h2, h3 => by
    have hun : ∀ k, tegularef35_Map_room.l0 (k + 1) m s0 n t = if t ≥ (m.length : Int) then some false else if 0 ≤ t then (if t < (m.length : Int) then (if rdOf false m t = true then some false else tegularef35_Map_room.l0 k m s0 n (wrap64 (t + 1))) else none) else none := fun k => by
      simp only [tegularef35_Map_room.l0]
      rw [w64 (n := s0 + n) (by omega) (by omega), if_pos (by omega)]
    by_cases hf : fr m t
    · have ih := room_loop m hm s0 n h0 h1 hn0 hn d (t + 1) (by omega) (by omega)
      have hk : ∀ k, tegularef35_Map_room.l0 (k + 1) m s0 n t = tegularef35_Map_room.l0 k m s0 n (t + 1) := fun k => by
        obtain ⟨f1, f2, f3⟩ := hf
        unfold frB at f3
        rw [hun k, if_neg (by omega), if_pos f1, if_pos f2, if_neg (by simpa using f3), w64 (n := t + 1) (by omega) (by omega)]
      refine ⟨fun h => Ev.succ hk (ih.1 fun u h4 h5 => h u (by omega) (by omega)), fun ⟨u, h4, h5, h6⟩ => Ev.succ hk (ih.2 ⟨u, ?_, by omega, h6⟩)⟩
      by_cases hu : u = t
      · subst hu
        exact absurd hf h6
      · omega
    · refine ⟨fun h => absurd (h t (Int.le_refl _) (by omega)) hf, fun _ => Ev.succ (g := fun _ => some false) (fun k => ?_) (Ev.now fun _ => rfl)⟩
      rw [hun k]
      by_cases h4 : t ≥ (m.length : Int)
      · rw [if_pos h4]
      · have h5 : rdOf false m t = true := by
          cases hb : rdOf false m t
          · exact absurd ⟨by omega, by omega, by unfold frB; rw [hb]; rfl⟩ hf
          · rfl
        rw [if_neg h4, if_pos (by omega), if_pos (by omega), if_pos h5]
theorem room_eq (m : List Bool) (hm : m.length ≤ 65536) (s n : Int) (h0 : 0 ≤ s) (h1 : s ≤ m.length) (hn0 : 0 ≤ n) (hn : n ≤ 1000000) :
    (roomP m s n → Ev (fun k => tegularef35_Map_room.f k m s n) true) ∧ (¬ roomP m s n → Ev (fun k => tegularef35_Map_room.f k m s n) false) := by
  have h := room_loop m hm s n h0 h1 hn0 hn n.toNat s (Int.le_refl _) (by omega)
  refine ⟨fun hr => h.1 fun u h2 h3 => hr u h2 (by omega), fun hr => h.2 ?_⟩
  refine Classical.byContradiction fun hn' => hr fun u h2 h3 => Classical.byContradiction fun hu => hn' ⟨u, h2, by omega, hu⟩
theorem ch0_loop (m : List Bool) (hm : m.length ≤ 65536) (n h : Int) (hn0 : 0 ≤ n) (hn : n ≤ 1000000) : ∀ (d : Nat) (s : Int), 0 ≤ s → s + d = m.length →
    (∀ s1, s ≤ s1 → s1 < m.length → roomP m s1 n → (∀ s', s ≤ s' → s' < s1 → ¬ roomP m s' n) → Ev (fun k => tegularef35_Map_choose.l0 k m n h s) [⟨0, n, s1⟩]) ∧
    ((∀ s', s ≤ s' → s' < m.length → ¬ roomP m s' n) → ∀ r, Ev (fun k => tegularef35_Map_choose.l1 k m n h 0) r → Ev (fun k => tegularef35_Map_choose.l0 k m n h s) r)
  | 0, s, h0, h1 => by
    refine ⟨fun s1 h2 h3 => by omega, fun _ r hr => Ev.succ (fun k => ?_) hr⟩
    simp only [tegularef35_Map_choose.l0]
    rw [if_neg (by omega)]
  | d + 1, s, h0, h1 => by
    have ih := ch0_loop m hm n h hn0 hn d (s + 1) (by omega) (by omega)
    have hq := room_eq m hm s n h0 (by omega) hn0 hn
    have hun : ∀ {b : Bool} {r : List S53}, Ev (fun k => tegularef35_Map_room.f k m s n) b → Ev (fun k => if b = true then some [(⟨0, n, s⟩ : S53)] else tegularef35_Map_choose.l0 k m n h (s + 1)) r → Ev (fun k => tegularef35_Map_choose.l0 k m n h s) r := fun {b r} hb hr => by
      refine Ev.succ (g := fun k => (tegularef35_Map_room.f k m s n).bind fun b => if b = true then some [(⟨0, n, s⟩ : S53)] else tegularef35_Map_choose.l0 k m n h (s + 1)) (fun k => ?_) (Ev.bind hb hr)
      simp only [tegularef35_Map_choose.l0]
      rw [if_pos (by omega), w64 (n := s + 1) (by omega) (by omega)]
    by_cases hr : roomP m s n
    · refine ⟨fun s1 h2 h3 h4 h5 => ?_, fun h2 => absurd hr (h2 s (Int.le_refl _) (by omega))⟩
      by_cases he : s1 = s
      · subst he
        exact hun (hq.1 hr) (Ev.now fun _ => rfl)
      · exact absurd hr (h5 s (Int.le_refl _) (by omega))
    · refine ⟨fun s1 h2 h3 h4 h5 => ?_, fun h2 r h6 => hun (hq.2 hr) (ih.2 (fun s' h7 h8 => h2 s' (by omega) h8) r h6)⟩
      have hne : s1 ≠ s := fun he => by
        subst he
        exact hr h4
      exact hun (hq.2 hr) (ih.1 s1 (by omega) h3 h4 fun s' h6 h7 => h5 s' (by omega) h7)
def tailC (k : Nat) (m : List Bool) (n h : Int) : Option (List S53) := (tegularef35_Map_some.f k m h (m.length : Int) n).bind fun t442 => (tegularef35_size.f k t442).bind fun t445 => (tegularef35_Map_some.f k m 0 h (wrap64 (n - t445))).bind fun t446 => if t442.length + t446.length < 5864062014805 then some (t442 ++ t446) else none
theorem ch1_loop (m : List Bool) (hm : m.length ≤ 65536) (n h : Int) (hn0 : 0 ≤ n) (hn : n ≤ 1000000) : ∀ (d : Nat) (s : Int), 0 ≤ s → s + d = m.length →
    (∀ s1, s ≤ s1 → s1 < m.length → roomP m s1 n → (∀ s', s ≤ s' → s' < s1 → ¬ roomP m s' n) → Ev (fun k => tegularef35_Map_choose.l1 k m n h s) [⟨0, n, s1⟩]) ∧
    ((∀ s', s ≤ s' → s' < m.length → ¬ roomP m s' n) → ∀ r, Ev (fun k => tailC k m n h) r → Ev (fun k => tegularef35_Map_choose.l1 k m n h s) r)
  | 0, s, h0, h1 => by
    refine ⟨fun s1 h2 h3 => by omega, fun _ r hr => Ev.succ (fun k => ?_) hr⟩
    simp only [tegularef35_Map_choose.l1]
    rw [if_neg (by omega)]
    rfl
  | d + 1, s, h0, h1 => by
    have ih := ch1_loop m hm n h hn0 hn d (s + 1) (by omega) (by omega)
    have hq := room_eq m hm s n h0 (by omega) hn0 hn
    have hun : ∀ {b : Bool} {r : List S53}, Ev (fun k => tegularef35_Map_room.f k m s n) b → Ev (fun k => if b = true then some [(⟨0, n, s⟩ : S53)] else tegularef35_Map_choose.l1 k m n h (s + 1)) r → Ev (fun k => tegularef35_Map_choose.l1 k m n h s) r := fun {b r} hb hr => by
      refine Ev.succ (g := fun k => (tegularef35_Map_room.f k m s n).bind fun b => if b = true then some [(⟨0, n, s⟩ : S53)] else tegularef35_Map_choose.l1 k m n h (s + 1)) (fun k => ?_) (Ev.bind hb hr)
      simp only [tegularef35_Map_choose.l1]
      rw [if_pos (by omega), w64 (n := s + 1) (by omega) (by omega)]
    by_cases hr : roomP m s n
    · refine ⟨fun s1 h2 h3 h4 h5 => ?_, fun h2 => absurd hr (h2 s (Int.le_refl _) (by omega))⟩
      by_cases he : s1 = s
      · subst he
        exact hun (hq.1 hr) (Ev.now fun _ => rfl)
      · exact absurd hr (h5 s (Int.le_refl _) (by omega))
    · refine ⟨fun s1 h2 h3 h4 h5 => ?_, fun h2 r h6 => hun (hq.2 hr) (ih.2 (fun s' h7 h8 => h2 s' (by omega) h8) r h6)⟩
      have hne : s1 ≠ s := fun he => by
        subst he
        exact hr h4
      exact hun (hq.2 hr) (ih.1 s1 (by omega) h3 h4 fun s' h6 h7 => h5 s' (by omega) h7)
/-- Slots that follow one another lie in one run. -/
theorem run_of : ∀ {l : List S53} {c s n : Int}, RO c l → 1 ≤ n → (∀ u, s ≤ u → u < s + n → Cov l u) → ∃ x ∈ l, x.f2 ≤ s ∧ s + n ≤ x.f2 + x.f1
  | [], _, s, n, _, hn, h => absurd (h s (Int.le_refl _) (by omega)) (cov_nil _)
  | x :: l, c, s, n, ⟨h0, h1, h2, h3⟩, hn, h => by
    rcases (cov_cons _ _ _).1 (h s (Int.le_refl _) (by omega)) with hs | hs
    · by_cases he : s + n ≤ x.f2 + x.f1
      · exact ⟨x, List.mem_cons_self, hs.1, he⟩
      · rcases (cov_cons _ _ _).1 (h (x.f2 + x.f1) (by omega) (by omega)) with h4 | h4
        · omega
        · have := h3.lt h4
          omega
    · have hlt := h3.lt hs
      obtain ⟨y, hy, h4⟩ := run_of h3 hn fun u h5 h6 => ((cov_cons _ _ _).1 (h u h5 h6)).elim (fun h7 => by omega) id
      exact ⟨y, List.mem_cons_of_mem _ hy, h4⟩
theorem ro_mem : ∀ {l : List S53} {c : Int}, RO c l → ∀ y ∈ l, c < y.f2
  | [], _, _, y, hy => by cases hy
  | x :: l, c, ⟨_, h1, h2, h3⟩, y, hy => by
    rcases List.mem_cons.1 hy with rfl | hy
    · exact h1
    · have := ro_mem h3 y hy
      omega
theorem ro_split : ∀ {pre : List S53} {x : S53} {post : List S53} {c : Int}, RO c (pre ++ x :: post) → ∀ y ∈ post, x.f2 < y.f2
  | [], x, post, c, ⟨_, _, h2, h3⟩, y, hy => by
    have := ro_mem h3 y hy
    omega
  | w :: pre, x, post, c, ⟨_, _, _, h3⟩, y, hy => ro_split h3 y hy
theorem fit_first {l : List S53} {c n : Int} (hr : RO c l) (ho : ∀ x ∈ l, OkS x) (hl : l.length ≤ 1000000) (hn : 1 ≤ n) (hn1 : n ≤ 1000000) :
    (∃ s1, alloc_fit.f l n = some ([⟨0, n, s1⟩], true) ∧ (∀ u, s1 ≤ u → u < s1 + n → Cov l u) ∧ ∀ s', (∀ u, s' ≤ u → u < s' + n → Cov l u) → s1 ≤ s') ∨
    (alloc_fit.f l n = some ([], false) ∧ ∀ s', ¬ ∀ u, s' ≤ u → u < s' + n → Cov l u) := by
  have hi : api_Extent_62.f l n = some (fidx n l 0) := by
    unfold api_Extent_62.f
    exact if_pos (by omega)
  rcases first_fit n l with h | ⟨pre, x, post, rfl, hp, hx⟩
  · refine .inr ⟨?_, fun s' h' => ?_⟩
    · unfold alloc_fit.f
      rw [hi, fidx_none h]
      rfl
    · obtain ⟨y, hy, h1, h2⟩ := run_of hr hn h'
      exact h y hy (by omega)
  · obtain ⟨o0, o1, o2⟩ := ho x (by simp)
    refine .inl ⟨x.f2, ?_, fun u h1 h2 => ⟨x, by simp, h1, by omega⟩, fun s' h' => ?_⟩
    · unfold alloc_fit.f
      rw [hi, fidx_some hp hx]
      simp only [Option.bind_some, Int.zero_add, alloc_run.f]
      rw [if_neg (by omega), if_pos (by omega), if_pos (len_mid pre x post), rd_mid, w64 (n := x.f2 + n) (by omega) (by omega), w64 (n := x.f2 + n - x.f2) (by omega) (by omega), show x.f2 + n - x.f2 = n by omega]
    · obtain ⟨y, hy, h1, h2⟩ := run_of hr hn h'
      rcases List.mem_append.1 hy with hy | hy
      · exact absurd (show y.f1 ≥ n by omega) (hp y hy)
      · rcases List.mem_cons.1 hy with rfl | hy
        · exact h1
        · have := ro_split hr y hy
          omega
theorem runs_end {P : Int → Prop} {R : List S53} {N : Int} (h : IsRuns P R) (hP : ∀ t, P t → t < N) : ∀ x ∈ R, x.f2 + x.f1 ≤ N := fun x hx => by
  obtain ⟨h0, h1, h2⟩ := h.2.1 x hx
  have := hP (x.f2 + x.f1 - 1) ((h.2.2 _).1 ⟨x, hx, by omega, by omega⟩)
  omega
theorem runs_short {P : Int → Prop} {R : List S53} {N : Nat} (h : IsRuns P R) (hP : ∀ t, P t → t < N) : R.length ≤ N + 1 := by
  have := ro_length (B := N) h.1 (runs_end h hP) (by omega)
  omega
theorem lenS_cut (a : Int) : ∀ {l : List S53}, (∀ x ∈ l, OkS x) → lenS (frm a l) + lenS (bef a l) = lenS l
  | [], _ => rfl
  | x :: l, h => by
    obtain ⟨o0, o1, o2⟩ := h x List.mem_cons_self
    have ih := lenS_cut a fun y hy => h y (List.mem_cons_of_mem _ hy)
    have h1 := @mx_le x.f2 a
    have h2 := @mn_le (x.f2 + x.f1) a
    rw [frm, bef, lenS_append, lenS_append, lenS, fr1, bf1]
    split <;> split <;> simp only [lenS] <;> omega
theorem frm_runs {P : Int → Prop} {l : List S53} (a : Int) (h0 : 0 ≤ a) (h : IsRuns P l) : IsRuns (fun t => P t ∧ a ≤ t) (frm a l) :=
  ⟨frm_ro a h.1, frm_ok h0 h.2.1, fun t => by rw [cov_frm, h.2.2 t]⟩
theorem bef_runs {P : Int → Prop} {l : List S53} (a : Int) (h : IsRuns P l) : IsRuns (fun t => P t ∧ t < a) (bef a l) :=
  ⟨bef_ro a h.1, fun y hy => (bef_ok h.2.1 y hy).1, fun t => by rw [cov_bef, h.2.2 t]⟩
def Choice (m : List Bool) (n : Int) (l : List S53) : Prop := permL m.length l ∧ (∀ t, Cov l t → fr m t) ∧ lenS l = n ∧ l.length ≤ 1000 ∧ (n = 1 → ∃ s, l = [⟨0, 1, s⟩])
theorem choice_one {m : List Bool} {n s : Int} (hm : m.length ≤ 99) (hn : 1 ≤ n) (h : roomP m s n) : Choice m n [⟨0, n, s⟩] := by
  have hs := h s (Int.le_refl _) (by omega)
  have he := h (s + n - 1) (by omega) (by omega)
  have h1 := hs.1
  have h2 := he.2.1
  refine ⟨⟨permB_iff.2 fun x hx => ?_, fun R hR => ?_⟩, fun t ht => ?_, by simp [lenS], by simp, fun h => ⟨s, by rw [h]⟩⟩
  · rw [List.mem_singleton.1 hx]
    exact ⟨hn, h1, by show s + n ≤ m.length; omega⟩
  · have h' : IsRuns (Cov [(⟨0, n, s⟩ : S53)]) [⟨0, n, s⟩] := ⟨⟨rfl, by show -1 < s; omega, hn, trivial⟩, fun x hx => by
      rw [List.mem_singleton.1 hx]
      exact ⟨h1, hn, by show s + n ≤ 65536; omega⟩, fun _ => Iff.rfl⟩
    rw [hR.uniq h' fun _ => Iff.rfl]
  · have := (cov_one _ _).1 ht
    simp only at this
    exact h t this.1 this.2
theorem choose_eq (m : List Bool) (hm : m.length ≤ 99) (rs : List S53) (hr : IsRuns (fr m) rs) (n h : Int) (hn : 1 ≤ n) (hf : n ≤ lenS rs) (h0 : 0 ≤ h) (h1 : h ≤ m.length) (M : Int) :
    ∃ l, Choice m n l ∧ Ev (fun k => tegularef35_Map_choose.f k m n h) l ∧
      (Ev (fun k => alloc_behind.f k M rs n h) (l, true) ∨ (Ev (fun k => alloc_behind.f k M rs n h) ([], false) ∧ Ev (fun _ => alloc_anywhere.f M rs n h) (l, true)) ∨ (Ev (fun k => alloc_behind.f k M rs n h) ([], false) ∧ Ev (fun _ => alloc_anywhere.f M rs n h) ([], false) ∧ Ev (fun k => alloc_pieces.f k M rs n h) (l, true))) := by
  have hP : ∀ t, fr m t → 0 ≤ t ∧ t < (m.length : Nat) := fun t h => ⟨h.1, h.2.1⟩
  have hle := runs_le hr hP
  have hF := frm_runs h h0 hr
  have hB := bef_runs h hr
  have lr := runs_short hr fun t h => h.2.1
  have lF := runs_short (N := m.length) hF fun t h => h.1.2.1
  have lB := runs_short (N := m.length) hB fun t h => h.1.2.1
  have hclip := clip_eq h h0 (by omega) rs (by omega) hr.2.1
  have hroom : ∀ s, roomP m s n ↔ ∀ u, s ≤ u → u < s + n → Cov rs u := fun s => ⟨fun h u h2 h3 => (hr.2.2 u).2 (h u h2 h3), fun h u h2 h3 => (hr.2.2 u).1 (h u h2 h3)⟩
  have hroomF : ∀ s, (h ≤ s ∧ roomP m s n) ↔ ∀ u, s ≤ u → u < s + n → Cov (frm h rs) u := fun s => by
    constructor
    · rintro ⟨h2, h3⟩ u h4 h5
      exact (hF.2.2 u).2 ⟨h3 u h4 h5, by omega⟩
    · intro h2
      exact ⟨((hF.2.2 s).1 (h2 s (Int.le_refl _) (by omega))).2, fun u h4 h5 => ((hF.2.2 u).1 (h2 u h4 h5)).1⟩
  have hlt : ∀ s, roomP m s n → 0 ≤ s ∧ s < m.length := fun s h2 => hP s (h2 s (Int.le_refl _) (by omega))
  have hstart : ∀ r, Ev (fun k => tegularef35_Map_choose.l0 k m n h h) r → Ev (fun k => tegularef35_Map_choose.f k m n h) r := fun r h2 => by
    refine Ev.same (fun k => ?_) h2
    unfold tegularef35_Map_choose.f
    rw [if_neg (by omega)]
  have c0 := ch0_loop m (by omega) n h (by omega) (by omega) (m.length - h.toNat) h h0 (by omega)
  have c1 := ch1_loop m (by omega) n h (by omega) (by omega) m.length 0 (by omega) (by omega)
  have hbe : ∀ p, alloc_fit.f (frm h rs) n = some p → Ev (fun k => alloc_behind.f k M rs n h) p := fun p hp => Ev.bind hclip (Ev.now fun _ => by simp only; rw [hp]; rfl)
  have han : ∀ p, alloc_fit.f rs n = some p → Ev (fun _ => alloc_anywhere.f M rs n h) p := fun p hp => Ev.now fun _ => by unfold alloc_anywhere.f; rw [hp]; rfl
  rcases fit_first hF.1 hF.2.1 (by omega) hn (by omega) with ⟨s1, e1, a1, a2⟩ | ⟨e1, a1⟩
  · obtain ⟨b1, b2⟩ := (hroomF s1).2 a1
    exact ⟨_, choice_one hm hn b2, hstart _ (c0.1 s1 b1 (hlt s1 b2).2 b2 fun s' h2 h3 h4 => by have := a2 s' ((hroomF s').1 ⟨h2, h4⟩); omega), .inl (hbe _ e1)⟩
  · have hno : ∀ s', h ≤ s' → s' < m.length → ¬ roomP m s' n := fun s' h2 _ h4 => a1 s' ((hroomF s').1 ⟨h2, h4⟩)
    rcases fit_first hr.1 hr.2.1 (by omega) hn (by omega) with ⟨s1, e2, a3, a4⟩ | ⟨e2, a3⟩
    · have b2 := (hroom s1).2 a3
      exact ⟨_, choice_one hm hn b2, hstart _ (c0.2 hno _ (c1.1 s1 (hlt s1 b2).1 (hlt s1 b2).2 b2 fun s' h2 h3 h4 => by have := a4 s' ((hroom s').1 h4); omega)), .inr (.inl ⟨hbe _ e1, han _ e2⟩)⟩
    · have hno' : ∀ s' : Int, 0 ≤ s' → s' < m.length → ¬ roomP m s' n := fun s' _ _ h4 => a3 s' ((hroom s').1 h4)
      have hcut := lenS_cut h hr.2.1
      have nF := lenS_nonneg fun x hx => by have := (hF.2.1 x hx).2.1; omega
      have nB := lenS_nonneg fun x hx => by have := (hB.2.1 x hx).2.1; omega
      have lA := lo_lenS (n := n) hF.2.1 (by omega)
      have hq := @mn_le n (lenS (frm h rs))
      have lC := lo_lenS (n := n - mn n (lenS (frm h rs))) hB.2.1 (by omega)
      have hq2 := @mn_le (n - mn n (lenS (frm h rs))) (lenS (bef h rs))
      obtain ⟨A, eA, hA⟩ := some_eq m (by omega) h m.length n h0 h1 (Int.le_refl _)
      obtain ⟨C, eC, hC⟩ := some_eq m (by omega) 0 h (n - mn n (lenS (frm h rs))) (Int.le_refl _) h0 h1
      have hA' : IsRuns (fun t => Cov (frm h rs) t ∧ numP (covB (frm h rs)) (h - 1 + 1) (t - (h - 1 + 1)).toNat < n) (lo (frm h rs) n) := ⟨lo_ro n hF.1, lo_ok hF.2.1, lo_cov (frm_ro' h hr.1) hF.2.1 (by omega)⟩
      have hC' : IsRuns (fun t => Cov (bef h rs) t ∧ numP (covB (bef h rs)) (-1 + 1) (t - (-1 + 1)).toNat < n - mn n (lenS (frm h rs))) (lo (bef h rs) (n - mn n (lenS (frm h rs)))) := ⟨lo_ro _ hB.1, lo_ok hB.2.1, lo_cov hB.1 hB.2.1 (by omega)⟩
      have hAe : lo (frm h rs) n = A := hA'.uniq hA fun t => by
        rw [show h - 1 + 1 = h by omega, hF.2.2 t]
        have key : t < m.length → numP (covB (frm h rs)) h (t - h).toNat = numP (frB m) h (t - h).toNat := fun ht => numP_congr fun u h2 h3 => by
          rw [Bool.eq_iff_iff, covB_iff, hF.2.2 u]
          exact ⟨fun h4 => h4.1.2.2, fun h4 => ⟨⟨by omega, by omega, h4⟩, h2⟩⟩
        constructor
        · rintro ⟨⟨h2, h3⟩, h4⟩
          rw [key h2.2.1] at h4
          exact ⟨h3, h2.2.1, h2.2.2, h4⟩
        · rintro ⟨h2, h3, h4, h5⟩
          rw [key h3]
          exact ⟨⟨⟨by omega, h3, h4⟩, h2⟩, h5⟩
      have hCe : lo (bef h rs) (n - mn n (lenS (frm h rs))) = C := hC'.uniq hC fun t => by
        rw [show (-1 : Int) + 1 = 0 by omega, hB.2.2 t]
        have key : t < h → numP (covB (bef h rs)) 0 (t - 0).toNat = numP (frB m) 0 (t - 0).toNat := fun ht => numP_congr fun u h2 h3 => by
          rw [Bool.eq_iff_iff, covB_iff, hB.2.2 u]
          exact ⟨fun h4 => h4.1.2.2, fun h4 => ⟨⟨h2, by omega, h4⟩, by omega⟩⟩
        constructor
        · rintro ⟨⟨h2, h3⟩, h4⟩
          rw [key h3] at h4
          exact ⟨h2.1, h3, h2.2.2, h4⟩
        · rintro ⟨h2, h3, h4, h5⟩
          rw [key h3]
          exact ⟨⟨⟨h2, by omega, h4⟩, h3⟩, h5⟩
      rw [hAe] at lA
      rw [hCe] at lC
      have sA := runs_short (N := m.length) hA fun t h => h.2.1
      have sC := runs_short (N := m.length) hC fun t h => by have := h.2.1; omega
      have fA : ∀ t, Cov A t → fr m t ∧ h ≤ t := fun t ht => by
        obtain ⟨h2, h3, h4, _⟩ := (hA.2.2 t).1 ht
        exact ⟨⟨by omega, h3, h4⟩, h2⟩
      have fC : ∀ t, Cov C t → fr m t ∧ t < h := fun t ht => by
        obtain ⟨h2, h3, h4, _⟩ := (hC.2.2 t).1 ht
        exact ⟨⟨h2, by omega, h4⟩, h3⟩
      have eE : lenS A = mn n (lenS (frm h rs)) := lA
      refine ⟨A ++ C, ⟨(permL_iff (by omega) (by rw [List.length_append]; omega)).2 ⟨permB_iff.2 fun x hx => ?_, ?_⟩, fun t ht => ?_, by rw [lenS_append]; omega, by rw [List.length_append]; omega, fun h2 => ?_⟩, hstart _ (c0.2 hno _ (c1.2 hno' _ ?_)), .inr (.inr ⟨hbe _ e1, han _ e2, ?_⟩)⟩
      · have hx' : OkS x ∧ x.f2 + x.f1 ≤ m.length := by
          rcases List.mem_append.1 hx with hx | hx
          · exact ⟨hA.2.1 x hx, runs_end hA (fun t h => h.2.1) x hx⟩
          · exact ⟨hC.2.1 x hx, runs_end hC (fun t h => by have := h.2.1; omega) x hx⟩
        exact ⟨hx'.1.2.1, hx'.1.1, hx'.2⟩
      · rw [lenS_append, runs_num (n := m.length) hA fun t h => ⟨by have := h.1; omega, h.2.1⟩, runs_num (n := m.length) hC fun t h => ⟨h.1, by have := h.2.1; omega⟩]
        symm
        refine numP_lin fun t _ _ => ?_
        rw [covB_append]
        cases ha : covB A t <;> cases hc : covB C t <;> simp
        have h2 := (fA t (covB_iff.1 ha)).2
        have h3 := (fC t (covB_iff.1 hc)).2
        omega
      · rcases (cov_append _ _ _).1 ht with ht | ht
        · exact (fA t ht).1
        · exact (fC t ht).1
      · exfalso
        cases hrs : rs with
        | nil =>
          rw [hrs] at hf
          simp only [lenS] at hf
          omega
        | cons y rest =>
          have hy : y ∈ rs := by rw [hrs]; exact List.mem_cons_self
          have ho := hr.2.1 y hy
          exact a3 y.f2 fun u h3 h4 => ⟨y, hy, h3, by have := ho.2.1; omega⟩
      · refine Ev.bind eA (Ev.bind (rsize_eq A (by omega) (okS_len hA.2.1)) ?_)
        rw [eE, w64 (n := n - mn n (lenS (frm h rs))) (by omega) (by omega)]
        exact Ev.bind eC (Ev.same (fun k => if_pos (by omega)) (Ev.now fun _ => rfl))
      · have el1 := low_eq (frm h rs) n (by omega) (by omega) (by omega) hF.2.1
        have el2 := low_eq (bef h rs) (n - mn n (lenS (frm h rs))) (by omega) (by omega) (by omega) hB.2.1
        rw [hAe] at el1
        rw [hCe] at el2
        refine Ev.bind hclip (Ev.bind el1 (Ev.bind (size_eq (frm h rs) (by omega) (okS_len hF.2.1)) ?_))
        rw [w64 (n := n - mn n (lenS (frm h rs))) (by omega) (by omega)]
        exact Ev.bind el2 (Ev.same (fun k => if_pos (by omega)) (Ev.now fun _ => rfl))
end Go.Proofs.Ytcjpikjbjehjeaa.PAllocB
