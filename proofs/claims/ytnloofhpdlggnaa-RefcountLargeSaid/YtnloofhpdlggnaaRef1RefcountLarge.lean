/- Reference counts in plain Lean: permitted lists, changed counts, Add. -/
import Derived.Test.YtnloofhpdlggnaaRun2RefcountLarge
namespace Go.Proofs.Ytnloofhpdlggnaa.PRefcountLarge
open Go.RowKit Go.Proofs.YtnloofhpdlggnaaW.PrintWords
theorem Ev.of_mono {α : Type} {f : Nat → Option α} {r : α} (m : ∀ k, LeO (f k) (f (k + 1))) {k0 : Nat} (h : f k0 = some r) : Ev f r := by
  refine ⟨k0, fun k hk => ?_⟩
  obtain ⟨d, rfl⟩ : ∃ d, k = k0 + d := ⟨k - k0, by omega⟩
  exact leo_add m d k0 r h
theorem Ev.uniq {α : Type} {f : Nat → Option α} {r r' : α} (h : Ev f r) (h' : Ev f r') : r = r' := by
  obtain ⟨k0, h⟩ := h
  obtain ⟨k1, h'⟩ := h'
  exact Option.some.inj ((h (k0 + k1) (by omega)).symm.trans (h' (k0 + k1) (by omega)))
/-- An extent whose slots are among n. -/
def okL (n : Int) (x : S41) : Prop := 1 ≤ x.f1 ∧ 0 ≤ x.f2 ∧ x.f2 + x.f1 ≤ n
instance (n : Int) (x : S41) : Decidable (okL n x) := by unfold okL; infer_instance
def permB (n : Int) (l : List S41) : Bool := l.all fun x => decide (okL n x)
theorem permB_iff {n : Int} {l : List S41} : permB n l = true ↔ ∀ x ∈ l, okL n x := by simp [permB, List.all_eq_true]
theorem okR_eq {n : Int} (h0 : 0 ≤ n) (h1 : n ≤ 2000000000) (x : S41) : okR n x.f1 x.f2 = decide (okL n x) := by
  have key : okR n x.f1 x.f2 = true ↔ x.f1 ≥ 1 ∧ x.f2 ≥ 0 ∧ x.f2 ≤ n ∧ x.f1 ≤ wrap64 (n - x.f2) := by simp only [okR, Bool.and_eq_true, decide_eq_true_eq, and_assoc]
  rw [Bool.eq_iff_iff, key, decide_eq_true_iff]
  unfold okL
  constructor
  · rintro ⟨h2, h3, h4, h5⟩
    rw [w64 (by omega) (by omega)] at h5
    omega
  · rintro ⟨h2, h3, h4⟩
    rw [w64 (by omega) (by omega)]
    omega
theorem foldl_and {α : Type} (p : α → Bool) : ∀ (l : List α) (b : Bool), l.foldl (fun b x => b && p x) b = (b && l.all p)
  | [], b => by simp
  | x :: l, b => by rw [List.foldl_cons, foldl_and p l, List.all_cons, Bool.and_assoc]
theorem perm_code (c : List Int) (l : List S41) (hc : c.length ≤ 2000000000) (hl : l.length ≤ 1000000000) : refcount_Counts_permitted.f c l = some (permB (c.length : Int) l) := by
  unfold refcount_Counts_permitted.f
  rw [if_pos hl, foldl_and, Bool.true_and]
  congr 1
  unfold permB
  congr 1
  funext x
  exact okR_eq (by omega) (by omega) x
/-- n counts from slot s on, changed by d. -/
def addN (d : Int) : Nat → Int → List Int → List Int
  | 0, _, c => c
  | n + 1, s, c => addN d n (s + 1) (c.set s.toNat (wrap64 (rd c s + d)))
def chg (d : Int) (l : List S41) (c : List Int) : List Int := l.foldl (fun c x => addN d x.f1.toNat x.f2 c) c
theorem addN_len (d : Int) : ∀ (n : Nat) (s : Int) (c : List Int), (addN d n s c).length = c.length
  | 0, _, _ => rfl
  | n + 1, s, c => by rw [addN, addN_len, List.length_set]
theorem chg_len (d : Int) : ∀ (l : List S41) (c : List Int), (chg d l c).length = c.length
  | [], _ => rfl
  | x :: l, c => by unfold chg; rw [List.foldl_cons]; exact (chg_len d l _).trans (addN_len d _ _ _)
theorem code_inner {r : List Int} (d : Int) (l : List S41) (len i a0 a1 a2 : Int) : ∀ (n : Nat) (s : Int) (c : List Int), 0 ≤ s → s + n = a2 + a1 → a2 + a1 ≤ c.length → c.length ≤ 2000000000 →
    Ev (fun k => refcount_Counts_changed.l0 k d (addN d n s c) l len (wrap64 (i + 1))) r → Ev (fun k => refcount_Counts_changed.l1 k d c s l len i a0 a1 a2) r
  | 0, s, c, h0, h1, h2, h3, h => by
    refine Ev.succ (fun k => ?_) h
    simp only [refcount_Counts_changed.l1]
    rw [w64 (n := a2 + a1) (by omega) (by omega), if_neg (by omega)]
    rfl
  | n + 1, s, c, h0, h1, h2, h3, h => by
    refine Ev.succ (fun k => ?_) (code_inner d l len i a0 a1 a2 n (s + 1) (c.set s.toNat (wrap64 (rd c s + d))) (by omega) (by omega) (by rw [List.length_set]; omega) (by rw [List.length_set]; omega) h)
    simp only [refcount_Counts_changed.l1]
    rw [w64 (n := a2 + a1) (by omega) (by omega), if_pos (by omega), if_pos h0, if_pos (by omega), w64 (n := s + 1) (by omega) (by omega)]
theorem code_changed_loop (d : Int) : ∀ (rest pre : List S41) (c : List Int), (pre ++ rest).length ≤ 2000000000 → c.length ≤ 2000000000 → (∀ x ∈ rest, okL (c.length : Int) x) →
    Ev (fun k => refcount_Counts_changed.l0 k d c (pre ++ rest) ((pre ++ rest).length : Int) (pre.length : Int)) (chg d rest c)
  | [], pre, c, _, _, _ => Ev.succ (g := fun _ => some c) (fun k => by simp only [refcount_Counts_changed.l0, List.append_nil]; rw [if_neg (by omega)]) (Ev.now fun _ => rfl)
  | x :: rest, pre, c, hlen, hc, hok => by
    have hlen' := hlen
    simp only [List.length_append, List.length_cons] at hlen'
    have hx := hok x List.mem_cons_self
    unfold okL at hx
    have ih := code_changed_loop d rest (pre ++ [x]) (addN d x.f1.toNat x.f2 c) (by simp; omega) (by rw [addN_len]; exact hc) (fun y hy => by rw [addN_len]; exact hok y (List.mem_cons_of_mem _ hy))
    rw [List.append_assoc, List.singleton_append] at ih
    have hnext := next_mid pre x rest (by omega)
    refine Ev.succ (g := fun k => refcount_Counts_changed.l1 k d c x.f2 (pre ++ x :: rest) ((pre ++ x :: rest).length : Int) (pre.length : Int) x.f0 x.f1 x.f2) (fun k => ?_) (code_inner d _ _ _ _ _ _ x.f1.toNat x.f2 c (by omega) (by omega) (by omega) hc ?_)
    · simp only [refcount_Counts_changed.l0]
      rw [if_pos (len_mid pre x rest), if_pos (by omega), if_pos (len_mid pre x rest), rd_mid]
    · rw [hnext]
      exact ih
theorem code_changed (d : Int) (c : List Int) (l : List S41) (hc : c.length ≤ 2000000000) (hl : l.length ≤ 1000000000) (hok : ∀ x ∈ l, okL (c.length : Int) x) : Ev (fun k => refcount_Counts_changed.f k c l d) (chg d l c) := by
  refine Ev.same (fun k => ?_) (code_changed_loop d l [] c (by simp; omega) hc hok)
  simp only [refcount_Counts_changed.f, Option.bind_some, List.nil_append, List.length_nil]
  rw [if_pos (by omega)]
  rfl
/-- What Add answers. -/
def addO (l : List S41) (c : List Int) : List Int × Int := if permB (c.length : Int) l = true then (chg 1 l c, 0) else ([], 2)
theorem code_Add (c : List Int) (l : List S41) (hc : c.length ≤ 2000000000) (hl : l.length ≤ 1000000000) : Ev (fun k => refcount_Counts_Add.f k c l) (addO l c) := by
  unfold addO
  refine Ev.same (g := fun k => if permB (c.length : Int) l = true then (refcount_Counts_changed.f k c l 1).bind fun t => some (t, 0) else some ([], 2)) (fun k => by simp only [refcount_Counts_Add.f]; rw [perm_code c l hc hl]; rfl) ?_
  by_cases hp : permB (c.length : Int) l = true
  · rw [if_pos hp]
    refine Ev.same (fun k => if_pos hp) (Ev.bind (code_changed 1 c l hc hl (permB_iff.1 hp)) (Ev.now fun _ => rfl))
  · rw [if_neg hp]
    exact Ev.now fun k => if_neg hp
end Go.Proofs.Ytnloofhpdlggnaa.PRefcountLarge
