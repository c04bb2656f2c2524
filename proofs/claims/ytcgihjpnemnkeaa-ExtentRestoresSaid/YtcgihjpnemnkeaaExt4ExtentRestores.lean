/- Lists of extents: where a block is found, and that the normal form keeps it. -/
import Derived.Test.YtcgihjpnemnkeaaExt3ExtentRestores
namespace Go.Proofs.Ytcgihjpnemnkeaa.PExtentRestores
open Go.RowKit Go.Proofs.YtcgihjpnemnkeaaW.PrintWords

def findL : List S33 → Int → Option Int
  | [], _ => none
  | x :: l, a => if x.f0 ≤ a ∧ a < x.f0 + x.f1 then some (x.f2 + a - x.f0) else findL l a
theorem findL_append : ∀ (l m : List S33) (a : Int), findL (l ++ m) a = (findL l a).or (findL m a)
  | [], m, a => by simp [findL]
  | x :: l, m, a => by
    simp only [List.cons_append, findL]
    split
    · simp
    · exact findL_append l m a
theorem findL_push {acc : List S33} {x : S33} {b : Int} (hv : Val b acc) (hx : Ok x) (a : Int) : findL (push acc x) a = (findL acc a).or (findL [x] a) := by
  rcases last_cases acc with rfl | ⟨m, y, rfl⟩
  · simp [findL]
  · have hy := (Val.ok hv y (by simp)).1
    unfold Ok at hx hy
    rw [push_snoc]
    split
    · rename_i h
      rw [findL_append, findL_append, Option.or_assoc]
      congr 1
      simp only [findL]
      by_cases h1 : y.f0 ≤ a ∧ a < y.f0 + y.f1
      · rw [if_pos (by omega), if_pos h1]
        simp
      · rw [if_neg h1]
        by_cases h2 : x.f0 ≤ a ∧ a < x.f0 + x.f1
        · rw [if_pos (by omega), if_pos h2]
          simp only [Option.none_or]
          congr 1
          omega
        · rw [if_neg (by omega), if_neg h2]
          simp
    · rw [show m ++ [y, x] = (m ++ [y]) ++ [x] by simp, findL_append]
theorem findL_foldl : ∀ (l acc : List S33) (a : Int), J acc l → findL (l.foldl push acc) a = (findL acc a).or (findL l a)
  | [], acc, a, _ => by simp [findL]
  | x :: l, acc, a, h => by
    have h1 := findL_foldl l (push acc x) a (J.step h)
    rw [List.foldl_cons, h1, findL_push h.1 h.2.1.1, Option.or_assoc]
    congr 1
    simp only [findL]
    split <;> simp
theorem findL_join {l : List S33} (h : Val 0 l) (a : Int) : findL (joinL l) a = findL l a := by
  unfold joinL
  rw [findL_foldl l [] a (J.nil h)]
  simp [findL]
theorem findL_before : ∀ {pre post : List S33} {x : S33} {b : Int}, Val b (pre ++ x :: post) → findL pre x.f0 = none
  | [], _, _, _, _ => rfl
  | y :: pre, post, x, b, ⟨h1, h2, h3⟩ => by
    simp only [findL]
    have h4 := (Val.ok h3 x (by simp)).2
    rw [if_neg (by omega)]
    exact findL_before h3
theorem findL_at {pre post : List S33} {x : S33} {b : Int} (h : Val b (pre ++ x :: post)) : findL (pre ++ x :: post) x.f0 = some x.f2 := by
  have hx := (Val.ok h x (by simp)).1
  unfold Ok at hx
  rw [findL_append, findL_before h]
  simp only [findL]
  rw [if_pos (by omega)]
  simp
theorem Val.swap : ∀ {pre post : List S33} {x x' : S33} {b : Int}, Val b (pre ++ x :: post) → Ok x' → x'.f0 = x.f0 → x'.f1 = x.f1 → Val b (pre ++ x' :: post)
  | [], post, x, x', b, ⟨h1, h2, h3⟩, ho, e0, e1 => ⟨ho, by omega, by rw [e0, e1]; exact h3⟩
  | y :: pre, post, x, x', b, ⟨h1, h2, h3⟩, ho, e0, e1 => ⟨h1, h2, Val.swap h3 ho e0 e1⟩
theorem Val.split : ∀ {pre post : List S33} {x : S33} {n b : Int}, Val b (pre ++ x :: post) → 0 < n → n < x.f1 → Val b (pre ++ ⟨x.f0, n, x.f2⟩ :: ⟨x.f0 + n, x.f1 - n, x.f2 + n⟩ :: post)
  | [], post, x, n, b, ⟨h1, h2, h3⟩, ha, hb => by
    unfold Ok at h1
    refine ⟨by unfold Ok; simp only; omega, h2, by unfold Ok; simp only; omega, by simp only; omega, ?_⟩
    have : x.f0 + n + (x.f1 - n) = x.f0 + x.f1 := by omega
    simp only
    rw [this]
    exact h3
  | y :: pre, post, x, n, b, ⟨h1, h2, h3⟩, ha, hb => ⟨h1, h2, Val.split h3 ha hb⟩
theorem push_split (acc : List S33) (x : S33) (n : Int) : push (push acc ⟨x.f0, n, x.f2⟩) ⟨x.f0 + n, x.f1 - n, x.f2 + n⟩ = push acc x := by
  have hx : (⟨x.f0, n + (x.f1 - n), x.f2⟩ : S33) = x := s33_ext.2 ⟨rfl, by show n + (x.f1 - n) = x.f1; omega, rfl⟩
  rcases last_cases acc with rfl | ⟨m, y, rfl⟩
  · rw [push_nil, push_nil, show [(⟨x.f0, n, x.f2⟩ : S33)] = [] ++ [⟨x.f0, n, x.f2⟩] from rfl, push_snoc, if_pos (by simp), hx]
    rfl
  · rw [push_snoc, push_snoc]
    simp only
    by_cases h : y.f0 + y.f1 = x.f0 ∧ y.f2 + y.f1 = x.f2
    · rw [if_pos h, if_pos h, push_snoc, if_pos (by simp only; omega)]
      congr 2
      exact s33_ext.2 ⟨rfl, by show y.f1 + n + (x.f1 - n) = y.f1 + x.f1; omega, rfl⟩
    · rw [if_neg h, if_neg h, show m ++ [y, (⟨x.f0, n, x.f2⟩ : S33)] = (m ++ [y]) ++ [⟨x.f0, n, x.f2⟩] by simp, push_snoc, if_pos (by simp), hx]
      simp
theorem joinL_split (pre post : List S33) (x : S33) (n : Int) : joinL (pre ++ ⟨x.f0, n, x.f2⟩ :: ⟨x.f0 + n, x.f1 - n, x.f2 + n⟩ :: post) = joinL (pre ++ x :: post) := by
  unfold joinL
  rw [List.foldl_append, List.foldl_append]
  simp only [List.foldl_cons]
  rw [push_split]
theorem joinL_changed {pre post : List S33} {x x' : S33} (h : Val 0 (pre ++ x :: post)) (h' : Val 0 (pre ++ x' :: post)) (e0 : x'.f0 = x.f0) (he : joinL (pre ++ x :: post) = joinL (pre ++ x' :: post)) : x'.f2 = x.f2 := by
  have h1 := findL_join h x.f0
  have h2 := findL_join h' x'.f0
  rw [findL_at h] at h1
  rw [findL_at h', ← he, e0, h1] at h2
  exact (Option.some.inj h2).symm
end Go.Proofs.Ytcgihjpnemnkeaa.PExtentRestores
