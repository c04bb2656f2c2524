/- Changed counts slot by slot; Drop in the code and in the document: the same answers. -/
import Derived.Test.YtnloofhpdlggnaaRef2RefcountLarge
namespace Go.Proofs.Ytnloofhpdlggnaa.PRefcountLarge
open Go.RowKit Go.Proofs.YtnloofhpdlggnaaW.PrintWords
/-- How often slot t is listed. -/
def cnt (t : Int) : List S41 → Int
  | [] => 0
  | x :: l => (if x.f2 ≤ t ∧ t < x.f2 + x.f1 then 1 else 0) + cnt t l
theorem cnt_nonneg (t : Int) : ∀ l : List S41, 0 ≤ cnt t l ∧ cnt t l ≤ l.length
  | [] => by simp [cnt]
  | x :: l => by
    have := cnt_nonneg t l
    rw [cnt, List.length_cons]
    split <;> omega
theorem cnt_pos (t : Int) : ∀ l : List S41, 0 < cnt t l ↔ Cov l t
  | [] => ⟨fun h => by simp [cnt] at h, fun h => absurd h (cov_nil _)⟩
  | x :: l => by
    have h := cnt_nonneg t l
    rw [cnt, cov_cons, ← cnt_pos t l]
    by_cases hx : x.f2 ≤ t ∧ t < x.f2 + x.f1
    · rw [if_pos hx]
      exact ⟨fun _ => .inl hx, fun _ => by omega⟩
    · rw [if_neg hx]
      exact ⟨fun h => .inr (by omega), fun h => h.elim (fun h => absurd h hx) (fun h => by omega)⟩
def Bd (lo hi : Int) (c : List Int) : Prop := ∀ t : Int, 0 ≤ t → t < c.length → lo ≤ rd c t ∧ rd c t ≤ hi
theorem addN_get {d : Int} : ∀ (n : Nat) (s : Int) (c : List Int) (t : Int), 0 ≤ s → s + n ≤ c.length → (∀ u : Int, s ≤ u → u < c.length → -4000000000000000000 ≤ rd c u + d ∧ rd c u + d ≤ 4000000000000000000) → 0 ≤ t → rd (addN d n s c) t = if s ≤ t ∧ t < s + n then rd c t + d else rd c t
  | 0, s, c, t, _, _, _, _ => by rw [addN, if_neg (by omega)]
  | n + 1, s, c, t, h0, h1, h2, h3 => by
    have hb := h2 s (Int.le_refl _) (by omega)
    have hw : wrap64 (rd c s + d) = rd c s + d := w64 (by omega) (by omega)
    rw [addN, addN_get n (s + 1) _ t (by omega) (by rw [List.length_set]; omega) (fun u h4 h5 => by rw [List.length_set] at h5; rw [rd_set c s u _ h0 (by omega) (by omega), if_neg (by omega)]; exact h2 u (by omega) h5) h3, rd_set c s t _ h0 (by omega) h3, hw]
    by_cases h : t = s
    · subst h
      rw [if_neg (by omega), if_pos rfl, if_pos (by omega)]
    · rw [if_neg h]
      by_cases h4 : s + 1 ≤ t ∧ t < s + 1 + n
      · rw [if_pos h4, if_pos (by omega)]
      · rw [if_neg h4, if_neg (by omega)]
theorem chg_get {d : Int} (hd1 : -1 ≤ d) (hd2 : d ≤ 1) : ∀ (l : List S41) (c : List Int) (t : Int) (lo hi : Int), Bd lo hi c → -1000000000000000000 ≤ lo - l.length → hi + l.length ≤ 1000000000000000000 → (∀ x ∈ l, okL (c.length : Int) x) → 0 ≤ t → t < c.length → rd (chg d l c) t = rd c t + d * cnt t l
  | [], c, t, _, _, _, _, _, _, _, _ => by show rd c t = rd c t + d * 0; omega
  | x :: l, c, t, lo, hi, hb, h1, h2, hok, h3, h4 => by
    have hx := hok x List.mem_cons_self
    unfold okL at hx
    rw [List.length_cons] at h1 h2
    have hget := fun u hu => addN_get (d := d) x.f1.toNat x.f2 c u (by omega) (by omega) (fun v hv hv' => by have := hb v (by omega) hv'; omega) hu
    have hbd : Bd (lo - 1) (hi + 1) (addN d x.f1.toNat x.f2 c) := fun u hu hu' => by
      rw [addN_len] at hu'
      rw [hget u hu]
      have := hb u hu hu'
      split <;> omega
    have ih := chg_get hd1 hd2 l (addN d x.f1.toNat x.f2 c) t (lo - 1) (hi + 1) hbd (by omega) (by omega) (fun y hy => by rw [addN_len]; exact hok y (List.mem_cons_of_mem _ hy)) h3 (by rw [addN_len]; exact h4)
    have he : chg d (x :: l) c = chg d l (addN d x.f1.toNat x.f2 c) := rfl
    rw [he, ih, hget t h3, cnt, Int.mul_add]
    by_cases hc : x.f2 ≤ t ∧ t < x.f2 + x.f1
    · rw [if_pos (by omega), if_pos hc]
      omega
    · rw [if_neg (by omega), if_neg hc]
      omega
/-- Counts from 0 to B. -/
def Inv (B : Int) (c : List Int) : Prop := c.length ≤ 65536 ∧ Bd 0 B c
theorem Inv.mono {B C : Int} {c : List Int} (h : Inv B c) (hc : B ≤ C) : Inv C c := ⟨h.1, fun t h1 h2 => by have := h.2 t h1 h2; omega⟩
theorem permB_cov {n : Int} {l : List S41} (h : permB n l = true) {t : Int} (ht : Cov l t) : 0 ≤ t ∧ t < n := by
  obtain ⟨x, hx, h1, h2⟩ := ht
  have := permB_iff.1 h x hx
  unfold okL at this
  omega
theorem add_get {B : Int} {c : List Int} {l : List S41} (h : Inv B c) (hB : B ≤ 1000000000) (hl : l.length ≤ 1000000000) (hp : permB (c.length : Int) l = true) {t : Int} (h0 : 0 ≤ t) (h1 : t < c.length) : rd (chg 1 l c) t = rd c t + cnt t l := by
  rw [chg_get (d := 1) (by omega) (by omega) l c t 0 B h.2 (by omega) (by omega) (permB_iff.1 hp) h0 h1]
  omega
theorem sub_get {B : Int} {c : List Int} {l : List S41} (h : Inv B c) (hB : B ≤ 1000000000) (hl : l.length ≤ 1000000000) (hp : permB (c.length : Int) l = true) {t : Int} (h0 : 0 ≤ t) (h1 : t < c.length) : rd (chg (-1) l c) t = rd c t - cnt t l := by
  rw [chg_get (d := -1) (by omega) (by omega) l c t 0 B h.2 (by omega) (by omega) (permB_iff.1 hp) h0 h1]
  omega
theorem Inv.add {B : Int} {c : List Int} {l : List S41} (h : Inv B c) (hB : B ≤ 1000000000) (hl : l.length ≤ 1000000000) (hp : permB (c.length : Int) l = true) : Inv (B + l.length) (chg 1 l c) := by
  refine ⟨by rw [chg_len]; exact h.1, fun t h0 h1 => ?_⟩
  rw [chg_len] at h1
  rw [add_get h hB hl hp h0 h1]
  have := h.2 t h0 h1
  have := cnt_nonneg t l
  omega
theorem Inv.sub {B : Int} {c : List Int} {l : List S41} (h : Inv B c) (hB : B ≤ 1000000000) (hl : l.length ≤ 1000000000) (hp : permB (c.length : Int) l = true) (hn : ∀ t : Int, 0 ≤ t → t < c.length → 0 ≤ rd (chg (-1) l c) t) : Inv B (chg (-1) l c) := by
  refine ⟨by rw [chg_len]; exact h.1, fun t h0 h1 => ?_⟩
  rw [chg_len] at h1
  refine ⟨hn t h0 h1, ?_⟩
  rw [sub_get h hB hl hp h0 h1]
  have := h.2 t h0 h1
  have := cnt_nonneg t l
  omega
theorem list_ext {a b : List Int} (hl : a.length = b.length) (h : ∀ t : Int, 0 ≤ t → t < a.length → rd a t = rd b t) : a = b := by
  apply List.ext_getElem hl
  intro i h1 h2
  have := h i (by omega) (by omega)
  unfold rd at this
  simpa [List.getD, h1, h2] using this
theorem mem_rd {c : List Int} {x : Int} : x ∈ c ↔ ∃ t : Int, 0 ≤ t ∧ t < c.length ∧ rd c t = x := by
  constructor
  · intro h
    obtain ⟨i, hi, e⟩ := List.getElem_of_mem h
    refine ⟨i, by omega, by omega, ?_⟩
    unfold rd
    simp [List.getD, hi, e]
  · rintro ⟨t, h0, h1, e⟩
    unfold rd at e
    have hi : t.toNat < c.length := by omega
    have : c[t.toNat] = x := by simpa [List.getD, hi] using e
    rw [← this]
    exact List.getElem_mem hi
theorem neg_iff (c : List Int) : (c.any fun x => decide (x < 0)) = true ↔ ∃ t : Int, 0 ≤ t ∧ t < c.length ∧ rd c t < 0 := by
  rw [List.any_eq_true]
  constructor
  · rintro ⟨x, hx, h⟩
    obtain ⟨t, h0, h1, e⟩ := mem_rd.1 hx
    exact ⟨t, h0, h1, by rw [e]; exact of_decide_eq_true h⟩
  · rintro ⟨t, h0, h1, h⟩
    exact ⟨rd c t, mem_rd.2 ⟨t, h0, h1, rfl⟩, decide_eq_true h⟩
theorem drop_inner {r : List Int × List S41 × Int} (out : List Int) (ho : out.length ≤ 65536) (l : List S41) (len i a0 a1 a2 : Int) : ∀ (n : Nat) (s : Int) (acc : List S41), 0 ≤ s → s + n = a2 + a1 → a2 + a1 ≤ out.length → acc.length + n ≤ 1000000000 →
    Ev (fun k => refcount_Counts_Drop.l0 k (acc ++ pick (fun t => decide (rd out t = 0)) s n) l len (wrap64 (i + 1)) out) r → Ev (fun k => refcount_Counts_Drop.l1 k acc s l len i out a0 a1 a2) r
  | 0, s, acc, h0, h1, h2, h3, h => by
    rw [pick, List.append_nil] at h
    refine Ev.succ (fun k => ?_) h
    simp only [refcount_Counts_Drop.l1]
    rw [w64 (n := a2 + a1) (by omega) (by omega), if_neg (by omega)]
  | n + 1, s, acc, h0, h1, h2, h3, h => by
    rw [pick] at h
    by_cases hp : rd out s = 0
    · rw [if_pos (decide_eq_true hp), ← List.append_assoc] at h
      refine Ev.succ (fun k => ?_) (drop_inner out ho l len i a0 a1 a2 n (s + 1) (acc ++ [⟨0, 1, s⟩]) (by omega) (by omega) h2 (by simp; omega) h)
      simp only [refcount_Counts_Drop.l1]
      rw [w64 (n := a2 + a1) (by omega) (by omega), if_pos (by omega), if_pos h0, if_pos (by omega), if_pos hp, if_pos (by omega), w64 (n := s + 1) (by omega) (by omega)]
    · rw [if_neg (by rw [decide_eq_false hp]; decide), List.nil_append] at h
      refine Ev.succ (fun k => ?_) (drop_inner out ho l len i a0 a1 a2 n (s + 1) acc (by omega) (by omega) h2 (by omega) h)
      simp only [refcount_Counts_Drop.l1]
      rw [w64 (n := a2 + a1) (by omega) (by omega), if_pos (by omega), if_pos h0, if_pos (by omega), if_neg hp, w64 (n := s + 1) (by omega) (by omega)]
/-- The slots of a list whose count is 0. -/
def freed (out : List Int) (l : List S41) : List S41 := l.flatMap fun x => pick (fun t => decide (rd out t = 0)) x.f2 x.f1.toNat
theorem freed_len (out : List Int) {n : Int} (hn : n ≤ 65536) : ∀ (l : List S41), (∀ x ∈ l, okL n x) → (freed out l).length ≤ l.length * 65536
  | [], _ => Nat.zero_le _
  | x :: l, h => by
    have ih := freed_len out hn l fun y hy => h y (List.mem_cons_of_mem _ hy)
    have hx := h x List.mem_cons_self
    unfold okL at hx
    have hp := pick_len (fun t => decide (rd out t = 0)) x.f1.toNat x.f2
    have he : freed out (x :: l) = pick (fun t => decide (rd out t = 0)) x.f2 x.f1.toNat ++ freed out l := rfl
    rw [he, List.length_append, List.length_cons]
    omega
theorem freed_one (out : List Int) {n : Int} (hn : n ≤ 65536) {l : List S41} (h : ∀ x ∈ l, okL n x) : ∀ y ∈ freed out l, oneB y = true := fun y hy => by
  obtain ⟨x, hx, hy⟩ := List.mem_flatMap.1 hy
  have hx := h x hx
  unfold okL at hx
  exact pick_one (by omega) (by omega) y hy
theorem freed_cov (out : List Int) (t : Int) : ∀ (l : List S41), (∀ x ∈ l, 1 ≤ x.f1) → (Cov (freed out l) t ↔ rd out t = 0 ∧ Cov l t)
  | [], _ => ⟨fun h => absurd h (cov_nil _), fun h => absurd h.2 (cov_nil _)⟩
  | x :: l, h => by
    have hx := h x List.mem_cons_self
    have he : freed out (x :: l) = pick (fun t => decide (rd out t = 0)) x.f2 x.f1.toNat ++ freed out l := rfl
    rw [he, cov_append, freed_cov out t l fun y hy => h y (List.mem_cons_of_mem _ hy), cov_cons, pick_cov]
    constructor
    · rintro (⟨h1, h2, h3⟩ | ⟨h1, h2⟩)
      · exact ⟨of_decide_eq_true h3, .inl ⟨h1, by omega⟩⟩
      · exact ⟨h1, .inr h2⟩
    · rintro ⟨h1, h2 | h2⟩
      · exact .inl ⟨h2.1, by omega, decide_eq_true h1⟩
      · exact .inr ⟨h1, h2⟩
theorem drop_loop {R : List S41} (out : List Int) (ho : out.length ≤ 65536) : ∀ (rest pre acc : List S41), (pre ++ rest).length ≤ 1000 → acc.length + rest.length * 65536 ≤ 1000000000 → (∀ x ∈ rest, okL (out.length : Int) x) →
    Ev (fun k => extent_Runs.f k (acc ++ freed out rest)) R → Ev (fun k => refcount_Counts_Drop.l0 k acc (pre ++ rest) ((pre ++ rest).length : Int) (pre.length : Int) out) (out, R, 0)
  | [], pre, acc, _, _, _, h => by
    have h' : Ev (fun k => extent_Runs.f k acc) R := by simpa [freed] using h
    refine Ev.succ (g := fun k => (extent_Runs.f k acc).bind fun t => some (out, t, 0)) (fun k => ?_) (Ev.bind h' (Ev.now fun _ => rfl))
    simp only [refcount_Counts_Drop.l0, List.append_nil]
    rw [if_neg (by omega)]
  | x :: rest, pre, acc, hlen, ha, hok, h => by
    have hlen' := hlen
    simp only [List.length_append, List.length_cons] at hlen' ha
    have hx := hok x List.mem_cons_self
    unfold okL at hx
    have hp := pick_len (fun t => decide (rd out t = 0)) x.f1.toNat x.f2
    have he : freed out (x :: rest) = pick (fun t => decide (rd out t = 0)) x.f2 x.f1.toNat ++ freed out rest := rfl
    rw [he, ← List.append_assoc] at h
    have ih := drop_loop out ho rest (pre ++ [x]) (acc ++ pick (fun t => decide (rd out t = 0)) x.f2 x.f1.toNat) (by simp; omega) (by rw [List.length_append]; omega) (fun y hy => hok y (List.mem_cons_of_mem _ hy)) h
    rw [List.append_assoc, List.singleton_append] at ih
    have hnext := next_mid pre x rest (by omega)
    refine Ev.succ (g := fun k => refcount_Counts_Drop.l1 k acc x.f2 (pre ++ x :: rest) ((pre ++ x :: rest).length : Int) (pre.length : Int) out x.f0 x.f1 x.f2) (fun k => ?_) (drop_inner out ho _ _ _ _ _ _ x.f1.toNat x.f2 acc (by omega) (by omega) (by omega) (by omega) ?_)
    · simp only [refcount_Counts_Drop.l0]
      rw [if_pos (len_mid pre x rest), if_pos (by omega), if_pos (len_mid pre x rest), rd_mid]
    · rw [hnext]
      exact ih
theorem code_Drop {B : Int} (c : List Int) (l : List S41) (hI : Inv B c) (_hB : B ≤ 1000000000) (hl : l.length ≤ 1000) :
    (permB (c.length : Int) l = false → Ev (fun k => refcount_Counts_Drop.f k c l) ([], [], 2)) ∧
    (permB (c.length : Int) l = true → (∃ t : Int, 0 ≤ t ∧ t < c.length ∧ rd (chg (-1) l c) t < 0) → Ev (fun k => refcount_Counts_Drop.f k c l) ([], [], 8)) ∧
    (permB (c.length : Int) l = true → (¬ ∃ t : Int, 0 ≤ t ∧ t < c.length ∧ rd (chg (-1) l c) t < 0) → ∃ R, Ev (fun k => refcount_Counts_Drop.f k c l) (chg (-1) l c, R, 0) ∧ IsRuns (fun t => rd (chg (-1) l c) t = 0 ∧ Cov l t) R ∧ R.length ≤ 100000000) := by
  have hc := hI.1
  have hp := perm_code c l (by omega) (by omega)
  have hlen : (chg (-1) l c).length = c.length := chg_len _ _ _
  have hcf : slices_ContainsFunc_int_int.f (chg (-1) l c) = some ((chg (-1) l c).any fun x => decide (x < 0)) := by
    unfold slices_ContainsFunc_int_int.f
    rw [if_pos (by omega)]
  refine ⟨fun h => Ev.now fun k => ?_, fun h hn => ?_, fun h hn => ?_⟩
  · simp only [refcount_Counts_Drop.f]
    rw [hp, h]
    rfl
  · refine Ev.same (fun k => ?_) (Ev.bind (f := fun k => refcount_Counts_changed.f k c l (-1)) (q := fun k t141 => (slices_ContainsFunc_int_int.f t141).bind fun t145 => if t145 = true then some (([] : List Int), ([] : List S41), 8) else refcount_Counts_Drop.l0 k [] l (l.length : Int) 0 t141) (code_changed (-1) c l (by omega) (by omega) (permB_iff.1 h)) (Ev.now fun k => ?_))
    · simp only [refcount_Counts_Drop.f]
      rw [hp, h]
      rfl
    · rw [hcf, (neg_iff _).2 (by rw [hlen]; exact hn)]
      rfl
  · have hok := permB_iff.1 h
    have hfl := freed_len (chg (-1) l c) (n := c.length) (by omega) l hok
    obtain ⟨R, e, hR, hRl⟩ := code_runs (freed (chg (-1) l c) l) (by omega) (freed_one _ (n := c.length) (by omega) hok)
    refine ⟨R, ?_, hR.of fun t => freed_cov _ t l fun x hx => by have := hok x hx; unfold okL at this; omega, by omega⟩
    refine Ev.same (fun k => ?_) (Ev.bind (f := fun k => refcount_Counts_changed.f k c l (-1)) (q := fun k t141 => (slices_ContainsFunc_int_int.f t141).bind fun t145 => if t145 = true then some (([] : List Int), ([] : List S41), 8) else refcount_Counts_Drop.l0 k [] l (l.length : Int) 0 t141) (code_changed (-1) c l (by omega) (by omega) (permB_iff.1 h)) (Ev.same (g := fun k => refcount_Counts_Drop.l0 k [] l (l.length : Int) 0 (chg (-1) l c)) (fun k => ?_) ?_))
    · simp only [refcount_Counts_Drop.f]
      rw [hp, h]
      rfl
    · rw [hcf]
      have : ((chg (-1) l c).any fun x => decide (x < 0)) = false := by
        rw [Bool.eq_false_iff]
        exact fun hh => hn (by have := (neg_iff _).1 hh; rw [hlen] at this; exact this)
      rw [this]
      rfl
    · have := drop_loop (R := R) (chg (-1) l c) (by omega) l [] [] (by simp; omega) (by simp; omega) (fun x hx => by rw [hlen]; exact hok x hx) (by rw [List.nil_append]; exact e)
      exact this
end Go.Proofs.Ytnloofhpdlggnaa.PRefcountLarge
