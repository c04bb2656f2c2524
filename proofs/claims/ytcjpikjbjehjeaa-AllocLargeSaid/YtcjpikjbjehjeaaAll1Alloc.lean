/- Maps with few runs in plain Lean: sizes, New, Take with no room, Largest. -/
import Derived.Test.YtcjpikjbjehjeaaPAllocx
namespace Go.Proofs.Ytcjpikjbjehjeaa.PAlloc
open Go.RowKit Go.Proofs.YtcjpikjbjehjeaaW.PrintWords
theorem w64 {n : Int} (h1 : -9223372036854775808 ≤ n) (h2 : n ≤ 9223372036854775807) : wrap64 n = n := by unfold wrap64; omega
/-- From some number of rounds on f answers r. -/
def Ev {α : Type} (f : Nat → Option α) (r : α) : Prop := ∃ k0, ∀ k, k0 ≤ k → f k = some r
theorem Ev.now {α : Type} {f : Nat → Option α} {r : α} (h : ∀ k, f k = some r) : Ev f r := ⟨0, fun k _ => h k⟩
theorem Ev.succ {α : Type} {f g : Nat → Option α} {r : α} (h : ∀ k, f (k + 1) = g k) (hg : Ev g r) : Ev f r := by
  obtain ⟨k0, hk⟩ := hg
  refine ⟨k0 + 1, fun k hk' => ?_⟩
  obtain ⟨k, rfl⟩ : ∃ m, k = m + 1 := ⟨k - 1, by omega⟩
  rw [h k]
  exact hk k (by omega)
theorem Ev.same {α : Type} {f g : Nat → Option α} {r : α} (h : ∀ k, f k = g k) (hg : Ev g r) : Ev f r := by
  obtain ⟨k0, hk⟩ := hg
  exact ⟨k0, fun k hk' => (h k).trans (hk k hk')⟩
theorem Ev.bind {α β : Type} {f : Nat → Option α} {q : Nat → α → Option β} {r : α} {s : β} (hf : Ev f r) (hq : Ev (fun k => q k r) s) : Ev (fun k => (f k).bind (q k)) s := by
  obtain ⟨k0, hk⟩ := hf
  obtain ⟨k1, hk1⟩ := hq
  exact ⟨k0 + k1, fun k hk' => by show (f k).bind (q k) = some s; rw [hk k (by omega)]; exact hk1 k (by omega)⟩
theorem Ev.ite {α : Type} {c : Prop} [Decidable c] {f g : Nat → Option α} {r : α} (h1 : c → Ev f r) (h2 : ¬ c → Ev g r) : Ev (fun k => if c then f k else g k) r := by
  by_cases hc : c
  · exact Ev.same (fun k => if_pos hc) (h1 hc)
  · exact Ev.same (fun k => if_neg hc) (h2 hc)
theorem Ev.of_mono {α : Type} {f : Nat → Option α} {r : α} (m : ∀ k, LeO (f k) (f (k + 1))) {k0 : Nat} (h : f k0 = some r) : Ev f r := by
  refine ⟨k0, fun k hk => ?_⟩
  obtain ⟨d, rfl⟩ : ∃ d, k = k0 + d := ⟨k - k0, by omega⟩
  exact leo_add m d k0 r h
theorem Ev.ex {α : Type} {f : Nat → Option α} {r : α} (h : Ev f r) : ∃ k, f k = some r := by
  obtain ⟨k0, hk⟩ := h
  exact ⟨k0, hk k0 (Nat.le_refl _)⟩
theorem awake_ev : Ev (fun k => tegulalaw35_awake.f k) true := Ev.of_mono (fun k => tegulalaw35_awake.mono k) tegulalaw35_awake.at_
/-- The free runs of a map with one free run (or none) of n slots from s on. -/
def one1 (s n : Int) : List S53 := if n = 0 then [] else [⟨0, n, s⟩]
theorem size_nil : Ev (fun k => alloc_size.f k []) 0 := by
  refine Ev.succ (g := fun _ => some 0) (fun k => ?_) (Ev.now fun _ => rfl)
  simp only [alloc_size.f, alloc_size.l0, List.length_nil]
  rw [if_neg (by decide)]
theorem size_single (n s : Int) (h0 : 0 ≤ n) (h1 : n ≤ 1000000) : Ev (fun k => alloc_size.f k [⟨0, n, s⟩]) n := by
  have hw : wrap64 (0 + n) = n := by rw [w64 (by omega) (by omega)]; omega
  have h1' : wrap64 (0 + 1) = 1 := by rw [w64 (by omega) (by omega)]; rfl
  refine Ev.succ (g := fun k => alloc_size.l0 k n [⟨0, n, s⟩] 1 1) (fun k => ?_) (Ev.succ (g := fun _ => some n) (fun k => ?_) (Ev.now fun _ => rfl))
  · simp only [alloc_size.f, alloc_size.l0, List.length_singleton]
    rw [if_pos (by decide), if_pos (by decide), if_pos (by decide)]
    have e : (rd_T53 [(⟨0, n, s⟩ : S53)] 0).f1 = n := rfl
    rw [e, hw, h1']
    rfl
  · simp only [alloc_size.l0]
    rw [if_neg (by decide)]
theorem size_one1 (n s : Int) (h0 : 0 ≤ n) (h1 : n ≤ 1000000) : Ev (fun k => alloc_size.f k (one1 s n)) n := by
  unfold one1
  by_cases h : n = 0
  · rw [if_pos h, h]
    exact size_nil
  · rw [if_neg h]
    exact size_single n s h0 h1
theorem free_one1 (m n s : Int) (h0 : 0 ≤ n) (h1 : n ≤ 1000000) : Ev (fun k => alloc_Map_Free.f k m (one1 s n)) n := Ev.bind (size_one1 n s h0 h1) (Ev.now fun _ => rfl)
theorem largest_one1 (m n s : Int) (h0 : 0 ≤ n) : Ev (fun k => alloc_Map_Largest.f k m (one1 s n)) n := by
  unfold one1
  by_cases h : n = 0
  · rw [if_pos h, h]
    refine Ev.succ (g := fun _ => some 0) (fun k => ?_) (Ev.now fun _ => rfl)
    simp only [alloc_Map_Largest.f, alloc_Map_Largest.l0, List.length_nil]
    rw [if_neg (by decide)]
  · rw [if_neg h]
    have hm : mx 0 n = n := by unfold mx; rw [if_pos (by omega)]
    have h1' : wrap64 (0 + 1) = 1 := by rw [w64 (by omega) (by omega)]; rfl
    refine Ev.succ (g := fun k => alloc_Map_Largest.l0 k n [⟨0, n, s⟩] 1 1) (fun k => ?_) (Ev.succ (g := fun _ => some n) (fun k => ?_) (Ev.now fun _ => rfl))
    · simp only [alloc_Map_Largest.f, alloc_Map_Largest.l0, List.length_singleton]
      rw [if_pos (by decide), if_pos (by decide), if_pos (by decide)]
      have e : (rd_T53 [(⟨0, n, s⟩ : S53)] 0).f1 = n := rfl
      rw [e, hm, h1']
      rfl
    · simp only [alloc_Map_Largest.l0]
      rw [if_neg (by decide)]
theorem new_bad {a0 : Int} (h : a0 < 0 ∨ a0 > 65536) : Ev (fun k => alloc_New.f k a0) (0, [], 1) := by
  refine Ev.same (g := fun k => alloc_New.j0 k a0 true) (fun k => ?_) (Ev.succ (g := fun _ => some (0, [], 1)) (fun k => ?_) (Ev.now fun _ => rfl))
  · unfold alloc_New.f
    by_cases h1 : a0 < 0
    · rw [if_pos h1]
    · rw [if_neg h1, decide_eq_true (by omega)]
  · simp only [alloc_New.j0]
    rw [if_pos trivial]
theorem new_ok {a0 : Int} (h0 : 0 ≤ a0) (h1 : a0 ≤ 65536) : Ev (fun k => alloc_New.f k a0) (a0, one1 0 a0, 0) := by
  refine Ev.same (g := fun k => alloc_New.j0 k a0 false) (fun k => ?_) (Ev.succ (g := fun _ => some (a0, one1 0 a0, 0)) (fun k => ?_) (Ev.now fun _ => rfl))
  · unfold alloc_New.f
    rw [if_neg (by omega), decide_eq_false (by omega)]
  · simp only [alloc_New.j0]
    rw [if_neg (by decide)]
    unfold one1
    by_cases h : a0 = 0
    · rw [if_pos h, if_pos h, h]
    · rw [if_neg h, if_neg h]
theorem take_go (m n hint : Int) (l : List S53) {r : List S53 × Int × List S53 × Int} (h0 : 0 ≤ n) (h1 : 0 ≤ hint) (h2 : hint ≤ m) (h : Ev (fun k => alloc_Map_Take.j0 k n hint false m l) r) : Ev (fun k => alloc_Map_Take.f k m l n hint) r := by
  refine Ev.same (fun k => ?_) h
  unfold alloc_Map_Take.f
  rw [if_neg (by omega), if_neg (by omega), decide_eq_false (by omega)]
/-- What Take does once its numbers are fit. -/
def takeR (k : Nat) (m : Int) (l : List S53) (n hint : Int) : Option (List S53 × Int × List S53 × Int) :=
  (alloc_Map_Free.f k m l).bind fun t => if n > t then some ([], 0, [], 11) else if n = 0 then some ([], m, l, 0) else
    (alloc_behind.f k m l n hint).bind fun b => if b.2 = true then (alloc_Map_Mark.f k m l b.1).bind fun c => some (b.1, c.1, c.2.1, c.2.2) else
      (alloc_anywhere.f m l n hint).bind fun b => if b.2 = true then (alloc_Map_Mark.f k m l b.1).bind fun c => some (b.1, c.1, c.2.1, c.2.2) else
        (alloc_pieces.f k m l n hint).bind fun b => if b.2 = true then (alloc_Map_Mark.f k m l b.1).bind fun c => some (b.1, c.1, c.2.1, c.2.2) else some ([], 0, [], 11)
theorem take_rest (m n hint : Int) (l : List S53) {r : List S53 × Int × List S53 × Int} (h0 : 0 ≤ n) (h1 : 0 ≤ hint) (h2 : hint ≤ m) (h : Ev (fun k => takeR k m l n hint) r) : Ev (fun k => alloc_Map_Take.f k m l n hint) r := by
  refine take_go m n hint l h0 h1 h2 (Ev.succ (fun k => ?_) h)
  simp only [alloc_Map_Take.j0]
  rw [if_neg (by decide)]
  rfl
theorem take_full (m n hint : Int) (l : List S53) {f : Int} (hf : Ev (fun k => alloc_Map_Free.f k m l) f) (h0 : 0 ≤ n) (h1 : 0 ≤ hint) (h2 : hint ≤ m) (h3 : n > f) : Ev (fun k => alloc_Map_Take.f k m l n hint) ([], 0, [], 11) :=
  take_rest m n hint l h0 h1 h2 (Ev.bind hf (Ev.ite (fun _ => Ev.now fun _ => rfl) (fun h => absurd h3 h)))
theorem take_zero (m hint : Int) (l : List S53) {f : Int} (hf : Ev (fun k => alloc_Map_Free.f k m l) f) (h1 : 0 ≤ hint) (h2 : hint ≤ m) (h3 : 0 ≤ f) : Ev (fun k => alloc_Map_Take.f k m l 0 hint) ([], m, l, 0) :=
  take_rest m 0 hint l (Int.le_refl _) h1 h2 (Ev.bind hf (Ev.ite (fun h => absurd h (by omega)) (fun _ => Ev.ite (fun _ => Ev.now fun _ => rfl) (fun h => absurd rfl h))))
end Go.Proofs.Ytcjpikjbjehjeaa.PAlloc
