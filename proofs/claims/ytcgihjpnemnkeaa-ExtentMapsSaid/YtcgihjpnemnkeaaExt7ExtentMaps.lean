/- Lists of extents: what Find answers. -/
import Derived.Test.YtcgihjpnemnkeaaExt6ExtentMaps
namespace Go.Proofs.Ytcgihjpnemnkeaa.PExtentMaps
open Go.RowKit Go.Proofs.YtcgihjpnemnkeaaW.PrintWords
def findG (a : Int) : List S33 → Int × Bool
  | [] => (0, false)
  | x :: l => if x.f0 ≤ a ∧ a < x.f0 + x.f1 then (x.f2 + a - x.f0, true) else findG a l
theorem find_loop (a : Int) : ∀ (rest pre : List S33) (k : Nat), rest.length < k → (pre ++ rest).length ≤ 1000000000 → (∀ x ∈ rest, Ok x) →
    extent_Find.l0 k a (pre ++ rest) ((pre ++ rest).length : Int) (pre.length : Int) = some (findG a rest)
  | [], pre, k, hk, _, _ => by
    obtain ⟨k, rfl⟩ : ∃ m, k = m + 1 := ⟨k - 1, by simp at hk; omega⟩
    simp only [extent_Find.l0]
    rw [if_neg (by simp)]
    rfl
  | x :: rest, pre, k, hk, hl, ho => by
    obtain ⟨k, rfl⟩ : ∃ m, k = m + 1 := ⟨k - 1, by omega⟩
    have ih := find_loop a rest (pre ++ [x]) k (by simp at hk; omega) (by simpa using hl) (fun y hy => ho y (by simp [hy]))
    rw [List.append_assoc, List.singleton_append] at ih
    have hx := ho x (by simp)
    simp only [extent_Find.l0]
    rw [if_pos (len_mid pre x rest), if_pos (by omega), if_pos (len_mid pre x rest), rd_mid, next_mid pre x rest (by simp at hl ⊢; omega), ih, end_eq hx]
    unfold Ok at hx
    simp only [Option.bind_some, findG]
    by_cases h1 : x.f0 ≤ a
    · rw [if_pos h1]
      by_cases h2 : a < x.f0 + x.f1
      · rw [if_pos h2, if_pos ⟨h1, h2⟩, w64 (n := x.f2 + a) (by omega) (by omega), w64 (by omega) (by omega)]
      · rw [if_neg h2, if_neg (fun h => h2 h.2)]
    · rw [if_neg h1, if_neg (fun h => h1 h.1)]
theorem rfind_loop (a : Int) : ∀ (rest pre : List S33) (k : Nat), rest.length < k → (pre ++ rest).length ≤ 1000000000 → (∀ x ∈ rest, Ok x) →
    tegularef32_Find.l0 k (pre ++ rest) a (pre.length : Int) = some (findG a rest)
  | [], pre, k, hk, _, _ => by
    obtain ⟨k, rfl⟩ : ∃ m, k = m + 1 := ⟨k - 1, by simp at hk; omega⟩
    simp only [tegularef32_Find.l0]
    rw [if_neg (by simp)]
    rfl
  | x :: rest, pre, k, hk, hl, ho => by
    obtain ⟨k, rfl⟩ : ∃ m, k = m + 1 := ⟨k - 1, by omega⟩
    have ih := rfind_loop a rest (pre ++ [x]) k (by simp at hk; omega) (by simpa using hl) (fun y hy => ho y (by simp [hy]))
    rw [List.append_assoc, List.singleton_append] at ih
    have hx := ho x (by simp)
    unfold Ok at hx
    simp only [tegularef32_Find.l0]
    rw [if_pos (len_mid pre x rest), if_pos (by omega), rd_mid, next_mid pre x rest (by simp at hl ⊢; omega), ih, w64 (n := x.f0 + x.f1) (by omega) (by omega)]
    simp only [findG]
    by_cases h1 : x.f0 ≤ a
    · rw [if_pos (show a ≥ x.f0 from h1)]
      by_cases h2 : a < x.f0 + x.f1
      · rw [if_pos h2, if_pos ⟨h1, h2⟩, w64 (n := x.f2 + a) (by omega) (by omega), w64 (by omega) (by omega)]
      · rw [if_neg h2, if_neg (fun h => h2 h.2)]
    · rw [if_neg (show ¬ a ≥ x.f0 from h1), if_neg (fun h => h1 h.1)]
def findF (l : List S33) (a : Int) : Int × Bool := if valB 0 l = true then findG a l else (0, false)
theorem find_eq (l : List S33) (a : Int) (k : Nat) (hk : l.length < k) (hl : l.length ≤ 1000000000) : extent_Find.f k l a = some (findF l a) ∧ tegularef32_Find.f k l a = some (findF l a) := by
  unfold extent_Find.f tegularef32_Find.f findF
  rw [valid_eq l k hk (by omega), rvalid_eq l k hk (by omega)]
  simp only [Option.bind_some]
  split
  · rename_i h
    have ho : ∀ x ∈ l, Ok x := fun x hx => (Val.ok (valB_iff.1 h) x hx).1
    have h1 := find_loop a l [] k hk (by simpa using hl) ho
    have h2 := rfind_loop a l [] k hk (by simpa using hl) ho
    exact ⟨by simpa using h1, by simpa using h2⟩
  · exact ⟨rfl, rfl⟩
theorem findG_eq (a : Int) : ∀ l : List S33, findG a l = match findL l a with | none => (0, false) | some v => (v, true)
  | [] => rfl
  | x :: l => by
    simp only [findG, findL]
    by_cases h : x.f0 ≤ a ∧ a < x.f0 + x.f1
    · rw [if_pos h, if_pos h]
    · rw [if_neg h, if_neg h]
      exact findG_eq a l
end Go.Proofs.Ytcgihjpnemnkeaa.PExtentMaps
