/- Used, Total, Of, Same, same, few, build: the code and the document agree. -/
import Derived.Test.YtnloofhpdlggnaaRef3RefcountLarge
namespace Go.Proofs.Ytnloofhpdlggnaa.PRefcountLarge
open Go.RowKit Go.Proofs.YtnloofhpdlggnaaW.PrintWords
theorem Ev.shift {α : Type} {f : Nat → Option α} {r : α} (h : Ev (fun k => f (k + 1)) r) : Ev f r := Ev.succ (fun _ => rfl) h
theorem Ev.ex {α : Type} {f : Nat → Option α} {r : α} (h : Ev f r) : ∃ k, f k = some r := by
  obtain ⟨k0, hk⟩ := h
  exact ⟨k0, hk k0 (Nat.le_refl _)⟩
theorem ri_mid (pre : List Int) (x : Int) (rest : List Int) : rd (pre ++ x :: rest) (pre.length : Int) = x := by simp [rd, List.getD]
theorem li_mid {α : Type} (pre : List α) (x : α) (rest : List α) : (pre.length : Int) < ((pre ++ x :: rest).length : Int) := by simp; omega
theorem ni_mid {α : Type} (pre : List α) (x : α) (rest : List α) (h : (pre ++ x :: rest).length ≤ 9223372036854775807) : wrap64 ((pre.length : Int) + 1) = ((pre ++ [x]).length : Int) := by
  simp only [List.length_append, List.length_cons, List.length_nil] at h ⊢
  rw [w64 (by omega) (by omega)]
  omega
theorem Inv.nonneg {B : Int} {c : List Int} (h : Inv B c) : ∀ x ∈ c, 0 ≤ x ∧ x ≤ B := fun x hx => by
  obtain ⟨t, h0, h1, e⟩ := mem_rd.1 hx
  rw [← e]
  exact h.2 t h0 h1
theorem inv_zero (n : Nat) (hn : n ≤ 65536) : Inv 0 (List.replicate n 0) := by
  refine ⟨by rw [List.length_replicate]; exact hn, fun t h0 h1 => ?_⟩
  have hm : rd (List.replicate n 0) t ∈ List.replicate n (0 : Int) := mem_rd.2 ⟨t, h0, h1, rfl⟩
  rw [List.eq_of_mem_replicate hm]
  omega
theorem new_code (n : Int) (h0 : 0 ≤ n) (h1 : n ≤ 65536) : refcount_New.f n = some (List.replicate n.toNat 0, 0) := by
  unfold refcount_New.f
  rw [if_neg (by omega), if_neg (by omega), if_pos h0, if_pos (by omega)]
theorem code_Used (c : List Int) (h : c.length ≤ 1000000000) : refcount_Counts_Used.f c = some (c.foldl stpUsed 0) := by unfold refcount_Counts_Used.f; exact if_pos h
theorem code_Total (c : List Int) (h : c.length ≤ 1000000000) : refcount_Counts_Total.f c = some (c.foldl stpTotal 0) := by unfold refcount_Counts_Total.f; exact if_pos h
theorem same_refl_loop (a : List S41) (ha : a.length ≤ 2000000000) : ∀ (n : Nat) (s : Int), 0 ≤ s → s + n = a.length → Ev (fun k => tegularef32_Same.l0 k a a s) true
  | 0, s, h0, h1 => Ev.succ (g := fun _ => some true) (fun k => by simp only [tegularef32_Same.l0]; rw [if_neg (by omega)]) (Ev.now fun _ => rfl)
  | n + 1, s, h0, h1 => by
    refine Ev.succ (fun k => ?_) (same_refl_loop a ha n (s + 1) (by omega) (by omega))
    simp only [tegularef32_Same.l0]
    rw [if_pos (by omega), if_pos h0, if_pos (by omega), if_neg (by simp), w64 (by omega) (by omega)]
theorem same_refl (a : List S41) (ha : a.length ≤ 2000000000) : Ev (fun k => tegularef32_Same.f k a a) true := by
  refine Ev.same (fun k => ?_) (same_refl_loop a ha a.length 0 (by omega) (by omega))
  unfold tegularef32_Same.f
  rw [if_pos rfl]
def ofV (c : List Int) (s : Int) : Int := if 0 ≤ s ∧ s < c.length then rd c s else 0
theorem code_Of (c : List Int) (s : Int) : refcount_Counts_Of.f c s = some (ofV c s) := by
  unfold refcount_Counts_Of.f ofV
  by_cases h0 : s < 0
  · rw [if_pos h0, if_neg (by omega)]
  · rw [if_neg h0]
    by_cases h1 : s ≥ (c.length : Int)
    · rw [if_pos h1, if_neg (by omega)]
    · rw [if_neg h1, if_pos (by omega), if_pos (by omega), if_pos (by omega)]
theorem awake_ev : Ev (fun k => tegulalaw34_awake.f k) true := Ev.of_mono (fun k => tegulalaw34_awake.mono k) tegulalaw34_awake.at_
end Go.Proofs.Ytnloofhpdlggnaa.PRefcountLarge
