/- The document's Runs in plain Lean: the runs of what the listed extents cover. -/
import Derived.Test.YtcjpikjbjehjeaaRun1AllocB
namespace Go.Proofs.Ytcjpikjbjehjeaa.PAllocB
open Go.RowKit Go.Proofs.YtcjpikjbjehjeaaW.PrintWords
/-- From some number of rounds on f answers r. -/
def Ev {α : Type} (f : Nat → Option α) (r : α) : Prop := ∃ k0, ∀ k, k0 ≤ k → f k = some r
theorem Ev.now {α : Type} {f : Nat → Option α} {r : α} (h : ∀ k, f k = some r) : Ev f r := ⟨0, fun k _ => h k⟩
theorem Ev.succ {α : Type} {f g : Nat → Option α} {r : α} (h : ∀ k, f (k + 1) = g k) (hg : Ev g r) : Ev f r := by
  obtain ⟨k0, hk⟩ := hg
  refine ⟨k0 + 1, fun k hk' => ?_⟩
  obtain ⟨k, rfl⟩ : ∃ m, k = m + 1 := ⟨k - 1, by omega⟩
  rw [h k]
  exact hk k (by omega)
theorem Ev.same {α : Type} {f g : Nat → Option α} {r : α} (h : ∀ k, f k = g k) (hg : Ev g r) : Ev f r := by
  obtain ⟨k0, hk⟩ := hg
  exact ⟨k0, fun k hk' => (h k).trans (hk k hk')⟩
theorem Ev.bind {α β : Type} {f : Nat → Option α} {q : Nat → α → Option β} {r : α} {s : β} (hf : Ev f r) (hq : Ev (fun k => q k r) s) : Ev (fun k => (f k).bind (q k)) s := by
  obtain ⟨k0, hk⟩ := hf
  obtain ⟨k1, hk1⟩ := hq
  exact ⟨k0 + k1, fun k hk' => by show (f k).bind (q k) = some s; rw [hk k (by omega)]; exact hk1 k (by omega)⟩
theorem Ev.ite {α : Type} {c : Prop} [Decidable c] {f g : Nat → Option α} {r : α} (h1 : c → Ev f r) (h2 : ¬ c → Ev g r) : Ev (fun k => if c then f k else g k) r := by
  by_cases hc : c
  · exact Ev.same (fun k => if_pos hc) (h1 hc)
  · exact Ev.same (fun k => if_neg hc) (h2 hc)
def oneB (x : S53) : Bool := decide (0 ≤ x.f0 ∧ 0 ≤ x.f2 ∧ 1 ≤ x.f1 ∧ x.f0 + x.f1 ≤ 65536 ∧ x.f2 + x.f1 ≤ 65536)
theorem one_eq (x : S53) : tegularef32_One.f x.f0 x.f1 x.f2 = some (oneB x) := by
  unfold tegularef32_One.f oneB
  by_cases h1 : x.f0 ≥ 0
  · by_cases h2 : x.f2 ≥ 0
    · by_cases h3 : x.f1 ≥ 1
      · by_cases h4 : x.f0 ≤ 65536
        · by_cases h5 : x.f2 ≤ 65536
          · by_cases h6 : x.f1 ≤ 65536
            · rw [if_pos h1, if_pos h2, if_pos h3, if_pos h4, if_pos h5, if_pos h6, w64 (n := x.f0 + x.f1) (by omega) (by omega), w64 (n := x.f2 + x.f1) (by omega) (by omega)]
              by_cases h7 : x.f0 + x.f1 ≤ 65536
              · rw [if_pos h7]
                congr 1
                by_cases h8 : x.f2 + x.f1 ≤ 65536
                · rw [decide_eq_true h8, decide_eq_true (by omega)]
                · rw [decide_eq_false h8, decide_eq_false (by omega)]
              · rw [if_neg h7, decide_eq_false (by omega)]
            · rw [if_pos h1, if_pos h2, if_pos h3, if_pos h4, if_pos h5, if_neg h6, decide_eq_false (by omega)]
          · rw [if_pos h1, if_pos h2, if_pos h3, if_pos h4, if_neg h5, decide_eq_false (by omega)]
        · rw [if_pos h1, if_pos h2, if_pos h3, if_neg h4, decide_eq_false (by omega)]
      · rw [if_pos h1, if_pos h2, if_neg h3, decide_eq_false (by omega)]
    · rw [if_pos h1, if_neg h2, decide_eq_false (by omega)]
  · rw [if_neg h1, decide_eq_false (by omega)]
theorem oneB_ok {x : S53} (h : oneB x = true) : OkS x := by
  unfold oneB at h
  have := of_decide_eq_true h
  exact ⟨this.2.1, this.2.2.1, this.2.2.2.2⟩
/-- The search for the least slot from e on. -/
def s1 (e : Int) (p : Int × Bool) (x : S53) : Int × Bool :=
  if oneB x = true ∧ e < x.f2 + x.f1 then (if p.2 = true then (if mx x.f2 e < p.1 then (mx x.f2 e, true) else p) else (mx x.f2 e, true)) else p
/-- The search for the greatest end of what contains a slot. -/
def s2 (nx en : Int) (x : S53) : Int := if oneB x = true ∧ x.f2 ≤ nx ∧ en < x.f2 + x.f1 then x.f2 + x.f1 else en
def after1 (k : Nat) (l out : List S53) (p : Int × Bool) : Option (List S53) := if p.2 = true then tegularef32_Runs.l2 k l out p.1 p.1 0 else some out
theorem search1 {r : List S53} (out : List S53) (e : Int) : ∀ (rest pre : List S53) (nx : Int) (fd : Bool), (pre ++ rest).length ≤ 2000000000 →
    Ev (fun k => after1 k (pre ++ rest) out (rest.foldl (s1 e) (nx, fd))) r →
    Ev (fun k => tegularef32_Runs.l1 k (pre ++ rest) out e nx fd (pre.length : Int)) r
  | [], pre, nx, fd, _, h => by
    refine Ev.succ (fun k => ?_) h
    simp only [tegularef32_Runs.l1, List.append_nil, List.foldl_nil]
    rw [if_neg (by omega)]
    rfl
  | x :: rest, pre, nx, fd, hlen, h => by
    have hlen' := hlen
    simp only [List.length_append, List.length_cons] at hlen'
    have hnext := next_mid pre x rest (by omega)
    have ih := fun nx' fd' => search1 (r := r) out e rest (pre ++ [x]) nx' fd' (by simp; omega)
    rw [List.append_assoc, List.singleton_append] at ih
    simp only [List.foldl_cons] at h
    have hmx : mx x.f2 e = mx (x.f2) e := rfl
    by_cases ho : oneB x = true
    · have hok := oneB_ok ho
      unfold OkS at hok
      refine Ev.succ (g := fun k => tegularef32_Runs.j2 k (pre ++ x :: rest) out e nx fd (pre.length : Int) (decide (x.f2 + x.f1 ≤ e))) (fun k => ?_) ?_
      · simp only [tegularef32_Runs.l1]
        rw [if_pos (len_mid pre x rest), if_pos (by omega), rd_mid, one_eq, ho, w64 (n := x.f2 + x.f1) (by omega) (by omega)]
        rfl
      · by_cases hc : x.f2 + x.f1 ≤ e
        · rw [decide_eq_true hc]
          have hs : s1 e (nx, fd) x = (nx, fd) := by unfold s1; rw [if_neg (by omega)]
          rw [hs] at h
          refine Ev.succ (fun k => ?_) (ih nx fd h)
          simp only [tegularef32_Runs.j2]
          rw [if_pos trivial, hnext]
        · rw [decide_eq_false hc]
          cases fd with
          | false =>
            have hs : s1 e (nx, false) x = (mx x.f2 e, true) := by unfold s1; rw [if_pos ⟨ho, by omega⟩]; rfl
            rw [hs] at h
            refine Ev.succ (fun k => ?_) (ih _ _ h)
            simp only [tegularef32_Runs.j2]
            rw [if_neg (by simp), if_pos (by omega), if_pos (len_mid pre x rest), if_neg (by simp), rd_mid, hnext]
          | true =>
            by_cases hl : mx x.f2 e < nx
            · have hs : s1 e (nx, true) x = (mx x.f2 e, true) := by unfold s1; rw [if_pos ⟨ho, by omega⟩, if_pos rfl, if_pos hl]
              rw [hs] at h
              refine Ev.succ (fun k => ?_) (ih _ _ h)
              simp only [tegularef32_Runs.j2]
              rw [if_neg (by simp), if_pos (by omega), if_pos (len_mid pre x rest), if_pos trivial, rd_mid, hnext, if_pos hl]
            · have hs : s1 e (nx, true) x = (nx, true) := by unfold s1; rw [if_pos ⟨ho, by omega⟩, if_pos rfl, if_neg hl]
              rw [hs] at h
              refine Ev.succ (fun k => ?_) (ih _ _ h)
              simp only [tegularef32_Runs.j2]
              rw [if_neg (by simp), if_pos (by omega), if_pos (len_mid pre x rest), if_pos trivial, rd_mid, hnext, if_neg hl]
    · have hs : s1 e (nx, fd) x = (nx, fd) := by unfold s1; rw [if_neg (fun h => ho h.1)]
      rw [hs] at h
      have ho' : oneB x = false := by simpa using ho
      refine Ev.succ (g := fun k => tegularef32_Runs.j2 k (pre ++ x :: rest) out e nx fd (pre.length : Int) true) (fun k => ?_) (Ev.succ (fun k => ?_) (ih nx fd h))
      · simp only [tegularef32_Runs.l1]
        rw [if_pos (len_mid pre x rest), if_pos (by omega), rd_mid, one_eq, ho']
        rfl
      · simp only [tegularef32_Runs.j2]
        rw [if_pos trivial, hnext]
/-- What the document's loop does when both searches are done. -/
def fin (k : Nat) (l out : List S53) (en nx : Int) : Option (List S53) :=
  if (wrap64 ((out.length : Int) - 1)) ≥ 0 then (if 0 ≤ (wrap64 ((out.length : Int) - 1)) then (if (wrap64 ((out.length : Int) - 1)) < (out.length : Int) then (if (wrap64 (((rd_T53 out (wrap64 ((out.length : Int) - 1))).f2) + ((rd_T53 out (wrap64 ((out.length : Int) - 1))).f1))) = nx then (tegularef32_Runs.l0 k l (out.set ((wrap64 ((out.length : Int) - 1)) : Int).toNat (⟨(rd_T53 out (wrap64 ((out.length : Int) - 1))).f0, wrap64 (((rd_T53 out (wrap64 ((out.length : Int) - 1))).f1) + (wrap64 (en - nx))), (rd_T53 out (wrap64 ((out.length : Int) - 1))).f2⟩ : S53)) en) else (if out.length < 5864062014805 then (tegularef32_Runs.l0 k l (out ++ [(⟨0, wrap64 (en - nx), nx⟩ : S53)]) en) else (none))) else (none)) else (none)) else (if out.length < 5864062014805 then (tegularef32_Runs.l0 k l (out ++ [(⟨0, wrap64 (en - nx), nx⟩ : S53)]) en) else (none))
theorem search2 {r : List S53} (out : List S53) (nx : Int) : ∀ (rest pre : List S53) (en : Int), (pre ++ rest).length ≤ 2000000000 →
    Ev (fun k => fin k (pre ++ rest) out (rest.foldl (s2 nx) en) nx) r →
    Ev (fun k => tegularef32_Runs.l2 k (pre ++ rest) out en nx (pre.length : Int)) r
  | [], pre, en, _, h => by
    refine Ev.succ (fun k => ?_) h
    simp only [tegularef32_Runs.l2, List.append_nil, List.foldl_nil]
    rw [if_neg (by omega)]
    rfl
  | x :: rest, pre, en, hlen, h => by
    have hlen' := hlen
    simp only [List.length_append, List.length_cons] at hlen'
    have hnext := next_mid pre x rest (by omega)
    have ih := fun en' => search2 (r := r) out nx rest (pre ++ [x]) en' (by simp; omega)
    rw [List.append_assoc, List.singleton_append] at ih
    simp only [List.foldl_cons] at h
    by_cases ho : oneB x = true
    · have hok := oneB_ok ho
      unfold OkS at hok
      by_cases hc : x.f2 ≤ nx
      · by_cases hd : en < x.f2 + x.f1
        · have hs : s2 nx en x = x.f2 + x.f1 := by unfold s2; rw [if_pos ⟨ho, hc, hd⟩]
          rw [hs] at h
          refine Ev.succ (fun k => ?_) (ih _ h)
          simp only [tegularef32_Runs.l2]
          rw [if_pos (len_mid pre x rest), if_pos (by omega), rd_mid, one_eq, ho, w64 (n := x.f2 + x.f1) (by omega) (by omega), hnext]
          simp only [Option.bind_some, if_true]
          rw [if_pos hc, if_pos hd]
        · have hs : s2 nx en x = en := by unfold s2; rw [if_neg (fun h => hd h.2.2)]
          rw [hs] at h
          refine Ev.succ (fun k => ?_) (ih _ h)
          simp only [tegularef32_Runs.l2]
          rw [if_pos (len_mid pre x rest), if_pos (by omega), rd_mid, one_eq, ho, w64 (n := x.f2 + x.f1) (by omega) (by omega), hnext]
          simp only [Option.bind_some, if_true]
          rw [if_pos hc, if_neg hd]
      · have hs : s2 nx en x = en := by unfold s2; rw [if_neg (fun h => hc h.2.1)]
        rw [hs] at h
        refine Ev.succ (fun k => ?_) (ih _ h)
        simp only [tegularef32_Runs.l2]
        rw [if_pos (len_mid pre x rest), if_pos (by omega), rd_mid, one_eq, ho, hnext]
        simp only [Option.bind_some, if_true]
        rw [if_neg hc]
    · have ho' : oneB x = false := by simpa using ho
      have hs : s2 nx en x = en := by unfold s2; rw [if_neg (fun h => ho h.1)]
      rw [hs] at h
      refine Ev.succ (fun k => ?_) (ih _ h)
      simp only [tegularef32_Runs.l2]
      rw [if_pos (len_mid pre x rest), if_pos (by omega), rd_mid, one_eq, ho', hnext]
      simp only [Option.bind_some]
      rw [if_neg (by simp)]
theorem mx_le {a b : Int} : mx a b = a ∧ b ≤ a ∨ mx a b = b ∧ a ≤ b := by unfold mx; split <;> omega
/-- What the first search finds. -/
theorem s1_facts (e : Int) : ∀ (l : List S53) (nx : Int) (fd : Bool),
    ((l.foldl (s1 e) (nx, fd)).2 = true ↔ fd = true ∨ ∃ x ∈ l, oneB x = true ∧ e < x.f2 + x.f1) ∧
    (∀ x ∈ l, oneB x = true → e < x.f2 + x.f1 → (l.foldl (s1 e) (nx, fd)).1 ≤ mx x.f2 e) ∧ (fd = true → (l.foldl (s1 e) (nx, fd)).1 ≤ nx) ∧
    ((l.foldl (s1 e) (nx, fd)).2 = true → (fd = true ∧ (l.foldl (s1 e) (nx, fd)).1 = nx) ∨ ∃ x ∈ l, oneB x = true ∧ e < x.f2 + x.f1 ∧ (l.foldl (s1 e) (nx, fd)).1 = mx x.f2 e)
  | [], nx, fd => ⟨by simp, by simp, fun _ => Int.le_refl _, fun h => .inl ⟨h, rfl⟩⟩
  | x :: l, nx, fd => by
    simp only [List.foldl_cons]
    by_cases hx : oneB x = true ∧ e < x.f2 + x.f1
    · by_cases hn : fd = true ∧ ¬ mx x.f2 e < nx
      · have hs : s1 e (nx, fd) x = (nx, fd) := by unfold s1; rw [if_pos hx, if_pos hn.1, if_neg hn.2]
        rw [hs]
        obtain ⟨h1, h2, h3, h4⟩ := s1_facts e l nx fd
        refine ⟨by rw [h1]; simp [hn.1], fun y hy h5 h6 => ?_, h3, fun h => ?_⟩
        · rcases List.mem_cons.1 hy with rfl | hy
          · have := h3 hn.1; omega
          · exact h2 y hy h5 h6
        · rcases h4 h with h | ⟨y, hy, h⟩
          · exact .inl h
          · exact .inr ⟨y, List.mem_cons_of_mem _ hy, h⟩
      · have hs : s1 e (nx, fd) x = (mx x.f2 e, true) := by
          unfold s1
          rw [if_pos hx]
          cases fd with
          | false => rfl
          | true => rw [if_pos rfl, if_pos (Classical.not_not.1 (fun hq => hn ⟨rfl, hq⟩))]
        rw [hs]
        obtain ⟨h1, h2, h3, h4⟩ := s1_facts e l (mx x.f2 e) true
        refine ⟨by rw [h1]; simp [hx], fun y hy h5 h6 => ?_, fun h => ?_, fun h => ?_⟩
        · rcases List.mem_cons.1 hy with rfl | hy
          · exact h3 rfl
          · exact h2 y hy h5 h6
        · have := h3 rfl; have : ¬ ¬ mx x.f2 e < nx := fun hq => hn ⟨h, hq⟩; omega
        · rcases h4 h with h | ⟨y, hy, h⟩
          · exact .inr ⟨x, List.mem_cons_self, hx.1, hx.2, h.2⟩
          · exact .inr ⟨y, List.mem_cons_of_mem _ hy, h⟩
    · have hs : s1 e (nx, fd) x = (nx, fd) := by unfold s1; rw [if_neg hx]
      rw [hs]
      obtain ⟨h1, h2, h3, h4⟩ := s1_facts e l nx fd
      refine ⟨?_, fun y hy h5 h6 => ?_, h3, fun h => ?_⟩
      · rw [h1]
        simp only [List.mem_cons, exists_eq_or_imp, hx, false_or]
      · rcases List.mem_cons.1 hy with rfl | hy
        · exact absurd ⟨h5, h6⟩ hx
        · exact h2 y hy h5 h6
      · rcases h4 h with h | ⟨y, hy, h⟩
        · exact .inl h
        · exact .inr ⟨y, List.mem_cons_of_mem _ hy, h⟩
/-- What the second search finds. -/
theorem s2_facts (nx : Int) : ∀ (l : List S53) (en : Int),
    en ≤ l.foldl (s2 nx) en ∧ (∀ x ∈ l, oneB x = true → x.f2 ≤ nx → x.f2 + x.f1 ≤ l.foldl (s2 nx) en) ∧ (l.foldl (s2 nx) en = en ∨ ∃ x ∈ l, oneB x = true ∧ x.f2 ≤ nx ∧ l.foldl (s2 nx) en = x.f2 + x.f1)
  | [], en => ⟨Int.le_refl _, by simp, .inl rfl⟩
  | x :: l, en => by
    simp only [List.foldl_cons]
    obtain ⟨h1, h2, h3⟩ := s2_facts nx l (s2 nx en x)
    have hs : s2 nx en x = x.f2 + x.f1 ∧ oneB x = true ∧ x.f2 ≤ nx ∧ en < x.f2 + x.f1 ∨ s2 nx en x = en ∧ ¬ (oneB x = true ∧ x.f2 ≤ nx ∧ en < x.f2 + x.f1) := by
      unfold s2
      by_cases hc : oneB x = true ∧ x.f2 ≤ nx ∧ en < x.f2 + x.f1
      · rw [if_pos hc]; exact .inl ⟨rfl, hc⟩
      · rw [if_neg hc]; exact .inr ⟨rfl, hc⟩
    refine ⟨?_, fun y hy h5 h6 => ?_, ?_⟩
    · rcases hs with ⟨hs, h⟩ | ⟨hs, h⟩ <;> omega
    · rcases List.mem_cons.1 hy with rfl | hy
      · rcases hs with ⟨hs, h⟩ | ⟨hs, h⟩
        · omega
        · have : ¬ en < y.f2 + y.f1 := fun hq => h ⟨h5, h6, hq⟩
          omega
      · exact h2 y hy h5 h6
    · rcases h3 with h3 | ⟨y, hy, h⟩
      · rcases hs with ⟨hs, h⟩ | ⟨hs, h⟩
        · exact .inr ⟨x, List.mem_cons_self, h.1, h.2.1, h3.trans hs⟩
        · exact .inl (h3.trans hs)
      · exact .inr ⟨y, List.mem_cons_of_mem _ hy, h⟩
theorem cov_filter (l : List S53) (t : Int) : Cov (l.filter oneB) t ↔ ∃ x ∈ l, oneB x = true ∧ x.f2 ≤ t ∧ t < x.f2 + x.f1 := by
  constructor
  · rintro ⟨x, hx, h⟩
    obtain ⟨h1, h2⟩ := List.mem_filter.1 hx
    exact ⟨x, h1, h2, h⟩
  · rintro ⟨x, h1, h2, h⟩
    exact ⟨x, List.mem_filter.2 ⟨h1, h2⟩, h⟩
theorem rEnd_le_of {l : List S53} {c b : Int} (hc : c ≤ b) (h : ∀ x ∈ l, x.f2 + x.f1 ≤ b) : rEnd c l ≤ b := by
  induction l generalizing c with
  | nil => exact hc
  | cons x l ih => exact ih (h x List.mem_cons_self) (fun y hy => h y (List.mem_cons_of_mem _ hy))
/-- The document's loop. -/
theorem ref_loop (l : List S53) (hl : l.length ≤ 2000000000) : ∀ (d : Nat) (out : List S53) (e : Int), e + d = 65536 → 0 ≤ e → RO (-1) out → rEnd (-1) out ≤ e → (∀ x ∈ out, OkS x) → (out.length : Int) ≤ e + 1 → (∀ t, Cov out t ↔ Cov (l.filter oneB) t ∧ t < e) →
    ∃ R, Ev (fun k => tegularef32_Runs.l0 k l out e) R ∧ RO (-1) R ∧ (∀ x ∈ R, OkS x) ∧ ∀ t, Cov R t ↔ Cov (l.filter oneB) t := by
  intro d
  induction d using Nat.strongRecOn with
  | ind d IH =>
    intro out e hd he ho hre hok hol hcov
    obtain ⟨f1, f2, _, f4⟩ := s1_facts e l 0 false
    by_cases hf : (l.foldl (s1 e) (0, false)).2 = true
    · -- a further run
      obtain ⟨x, hx, ox, hxe, hnx⟩ := (f4 hf).resolve_left (by simp)
      generalize hN : (l.foldl (s1 e) (0, false)).1 = nx at *
      have okx := oneB_ok ox
      unfold OkS at okx
      obtain ⟨g1, g2, g3⟩ := s2_facts nx l nx
      generalize hE : l.foldl (s2 nx) nx = en at *
      have hm := mx_le (a := x.f2) (b := e)
      have hxn : x.f2 ≤ nx ∧ nx < x.f2 + x.f1 ∧ e ≤ nx := by omega
      have hen := g2 x hx ox hxn.1
      obtain ⟨y, hy, oy, hyn, hye⟩ := g3.resolve_left (by omega)
      have oky := oneB_ok oy
      unfold OkS at oky
      -- what is covered up to the new end
      have hnew : ∀ t, (Cov (l.filter oneB) t ∧ t < en) ↔ (Cov (l.filter oneB) t ∧ t < e) ∨ (nx ≤ t ∧ t < en) := by
        intro t
        constructor
        · rintro ⟨hc, ht⟩
          by_cases hte : t < e
          · exact .inl ⟨hc, hte⟩
          · obtain ⟨z, hz, oz, hz1, hz2⟩ := (cov_filter l t).1 hc
            have := f2 z hz oz (by omega)
            have hm' := mx_le (a := z.f2) (b := e)
            exact .inr ⟨by omega, ht⟩
        · rintro (⟨hc, ht⟩ | ⟨h1, h2⟩)
          · exact ⟨hc, by omega⟩
          · exact ⟨(cov_filter l t).2 ⟨y, hy, oy, by omega, by omega⟩, h2⟩
      have step : ∀ out', RO (-1) out' → rEnd (-1) out' ≤ en → (∀ x ∈ out', OkS x) → (out'.length : Int) ≤ en + 1 → (∀ t, Cov out' t ↔ Cov out t ∨ (nx ≤ t ∧ t < en)) →
          ∃ R, Ev (fun k => tegularef32_Runs.l0 k l out' en) R ∧ RO (-1) R ∧ (∀ x ∈ R, OkS x) ∧ ∀ t, Cov R t ↔ Cov (l.filter oneB) t :=
        fun out' h1 h2 h3 h4 h5 => IH (65536 - en).toNat (by omega) out' en (by omega) (by omega) h1 h2 h3 h4 (fun t => by rw [h5, hcov, hnew])
      have hw : ∀ {n : Int}, -70000 ≤ n → n ≤ 70000 * 3 → wrap64 n = n := fun h1 h2 => w64 (by omega) (by omega)
      have fin' : ∀ R, Ev (fun k => fin k l out en nx) R → Ev (fun k => tegularef32_Runs.l0 k l out e) R := fun R h => by
        refine Ev.succ (g := fun k => tegularef32_Runs.l1 k l out e 0 false 0) (fun k => by simp only [tegularef32_Runs.l0]) ?_
        refine search1 (r := R) out e l [] 0 false (by simpa using hl) ?_
        simp only [List.nil_append]
        refine Ev.same (g := fun k => tegularef32_Runs.l2 k l out nx nx 0) (fun k => by unfold after1; rw [if_pos hf, hN]) ?_
        refine search2 (r := R) out nx l [] nx (by simpa using hl) ?_
        rw [hE]
        exact h
      rcases List.eq_nil_or_concat out with rfl | ⟨o, y', hoy⟩
      · obtain ⟨R, hR, r⟩ := step [⟨0, en - nx, nx⟩] ⟨rfl, by show (-1 : Int) < nx; omega, by show 1 ≤ en - nx; omega, trivial⟩ (by show nx + (en - nx) ≤ en; omega) (by intro z hz; simp at hz; subst hz; exact ⟨by show 0 ≤ nx; omega, by show 1 ≤ en - nx; omega, by show nx + (en - nx) ≤ 65536; omega⟩) (by simp; omega)
          (fun t => by rw [cov_cons]; simp only; exact ⟨fun h => h.elim (fun h => .inr ⟨h.1, by omega⟩) .inl, fun h => h.elim .inr (fun h => .inl ⟨h.1, by omega⟩)⟩)
        refine ⟨R, fin' R (Ev.same (fun k => ?_) hR), r⟩
        unfold fin
        simp only [List.length_nil]
        rw [show wrap64 (((0 : Nat) : Int) - 1) = -1 from by unfold wrap64; omega, if_neg (by omega), if_pos (by omega), hw (n := en - nx) (by omega) (by omega)]
        rfl
      · rw [List.concat_eq_append] at hoy
        subst hoy
        obtain ⟨hoo, y0, y1, y2⟩ := ro_snoc.1 ho
        have hy' := hok y' (by simp)
        unfold OkS at hy'
        rw [rEnd_snoc] at hre
        have hpos : 1 ≤ (o ++ [y']).length := by simp
        have hfin : ∀ k, fin k l (o ++ [y']) en nx = if y'.f2 + y'.f1 = nx then tegularef32_Runs.l0 k l (o ++ [⟨y'.f0, y'.f1 + (en - nx), y'.f2⟩]) en else tegularef32_Runs.l0 k l (o ++ [y'] ++ [⟨0, en - nx, nx⟩]) en := fun k => by
          unfold fin
          rw [w64 (n := ((o ++ [y']).length : Int) - 1) (by omega) (by omega), if_pos (by omega), if_pos (by omega), if_pos (by omega), rd_end, set_end, hw (n := y'.f2 + y'.f1) (by omega) (by omega), hw (n := en - nx) (by omega) (by omega)]
          by_cases hc : y'.f2 + y'.f1 = nx
          · rw [if_pos hc, if_pos hc, hw (n := y'.f1 + (en - nx)) (by omega) (by omega)]
          · rw [if_neg hc, if_neg hc, if_pos (by omega)]
        by_cases hc : y'.f2 + y'.f1 = nx
        · obtain ⟨R, hR, r⟩ := step (o ++ [⟨y'.f0, y'.f1 + (en - nx), y'.f2⟩]) (ro_snoc.2 ⟨hoo, y0, y1, by show 1 ≤ y'.f1 + (en - nx); omega⟩) (by rw [rEnd_snoc]; show y'.f2 + (y'.f1 + (en - nx)) ≤ en; omega)
            (by intro z hz; rcases List.mem_append.1 hz with hz | hz
                · exact hok z (List.mem_append_left _ hz)
                · simp at hz; subst hz; exact ⟨hy'.1, by show 1 ≤ y'.f1 + (en - nx); omega, by show y'.f2 + (y'.f1 + (en - nx)) ≤ 65536; omega⟩)
            (by simp at hol ⊢; omega)
            (fun t => by
              rw [cov_append, cov_append, cov_cons, cov_cons]
              simp only
              constructor
              · rintro (h | h | h)
                · exact .inl (.inl h)
                · by_cases hb : t < y'.f2 + y'.f1
                  · exact .inl (.inr (.inl ⟨h.1, hb⟩))
                  · exact .inr ⟨by omega, by omega⟩
                · exact absurd h (cov_nil _)
              · rintro ((h | h | h) | h)
                · exact .inl h
                · exact .inr (.inl ⟨h.1, by omega⟩)
                · exact absurd h (cov_nil _)
                · exact .inr (.inl ⟨by omega, by omega⟩))
          exact ⟨R, fin' R (Ev.same (fun k => (hfin k).trans (if_pos hc)) hR), r⟩
        · obtain ⟨R, hR, r⟩ := step (o ++ [y'] ++ [⟨0, en - nx, nx⟩]) (ro_snoc.2 ⟨ho, rfl, by rw [rEnd_snoc]; show y'.f2 + y'.f1 < nx; omega, by show 1 ≤ en - nx; omega⟩) (by rw [rEnd_snoc]; show nx + (en - nx) ≤ en; omega)
            (by intro z hz; rcases List.mem_append.1 hz with hz | hz
                · exact hok z hz
                · simp at hz; subst hz; exact ⟨by show 0 ≤ nx; omega, by show 1 ≤ en - nx; omega, by show nx + (en - nx) ≤ 65536; omega⟩)
            (by simp at hol ⊢; omega)
            (fun t => by
              rw [cov_append (o ++ [y']), cov_cons]
              simp only
              constructor
              · rintro (h | h | h)
                · exact .inl h
                · exact .inr ⟨h.1, by omega⟩
                · exact absurd h (cov_nil _)
              · rintro (h | h)
                · exact .inl h
                · exact .inr (.inl ⟨h.1, by omega⟩))
          exact ⟨R, fin' R (Ev.same (fun k => (hfin k).trans (if_neg hc)) hR), r⟩
    · -- no further run
      refine ⟨out, ?_, ho, hok, fun t => ?_⟩
      · refine Ev.succ (g := fun k => tegularef32_Runs.l1 k l out e 0 false 0) (fun k => by simp only [tegularef32_Runs.l0]) ?_
        refine search1 (r := out) out e l [] 0 false (by simpa using hl) ?_
        refine Ev.now (fun k => ?_)
        simp only [List.nil_append]
        unfold after1
        rw [if_neg hf]
      · rw [hcov]
        constructor
        · exact fun h => h.1
        · intro h
          refine ⟨h, ?_⟩
          obtain ⟨z, hz, oz, h1, h2⟩ := (cov_filter l t).1 h
          have : ¬ e < z.f2 + z.f1 := fun hc => hf (f1.2 (.inr ⟨z, hz, oz, hc⟩))
          omega
theorem ref_runs (l : List S53) (hl : l.length ≤ 2000000000) : ∃ R, Ev (fun k => tegularef32_Runs.f k l) R ∧ RO (-1) R ∧ (∀ x ∈ R, OkS x) ∧ ∀ t, Cov R t ↔ Cov (l.filter oneB) t := by
  refine ref_loop l hl 65536 [] 0 (by omega) (by omega) trivial (by show (-1 : Int) ≤ 0; omega) (by simp) (by simp) (fun t => ?_)
  constructor
  · exact fun h => absurd h (cov_nil _)
  · rintro ⟨h, ht⟩
    obtain ⟨z, hz, oz, h1, h2⟩ := (cov_filter l t).1 h
    have := oneB_ok oz
    unfold OkS at this
    omega
end Go.Proofs.Ytcjpikjbjehjeaa.PAllocB
