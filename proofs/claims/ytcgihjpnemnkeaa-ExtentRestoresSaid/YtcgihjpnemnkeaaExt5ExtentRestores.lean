/- Lists of extents: putting one. -/
import Derived.Test.YtcgihjpnemnkeaaExt3ExtentRestores
namespace Go.Proofs.Ytcgihjpnemnkeaa.PExtentRestores
open Go.RowKit Go.Proofs.YtcgihjpnemnkeaaW.PrintWords

theorem push_merge (acc : List S33) (z y : S33) (h : z.f0 + z.f1 = y.f0 ∧ z.f2 + z.f1 = y.f2) : push acc ⟨z.f0, z.f1 + y.f1, z.f2⟩ = push (push acc z) y := by
  rcases last_cases acc with rfl | ⟨m, w, rfl⟩
  · rw [push_nil, push_nil, show [z] = [] ++ [z] from rfl, push_snoc, if_pos h]
    rfl
  · rw [push_snoc, push_snoc]
    simp only
    by_cases hc : w.f0 + w.f1 = z.f0 ∧ w.f2 + w.f1 = z.f2
    · rw [if_pos hc, if_pos hc, push_snoc, if_pos (by simp only; omega)]
      congr 2
      exact s33_ext.2 ⟨rfl, by show w.f1 + (z.f1 + y.f1) = w.f1 + z.f1 + y.f1; omega, rfl⟩
    · rw [if_neg hc, if_neg hc, show m ++ [w, z] = (m ++ [w]) ++ [z] by simp, push_snoc, if_pos h]
      simp
theorem foldl_push_push (acc m : List S33) (y : S33) : (push m y).foldl push acc = push (m.foldl push acc) y := by
  rcases last_cases m with rfl | ⟨m, z, rfl⟩
  · rfl
  · rw [push_snoc]
    split
    · rename_i h
      rw [List.foldl_append, List.foldl_append]
      simp only [List.foldl_cons, List.foldl_nil]
      exact push_merge _ z y h
    · rw [show m ++ [z, y] = (m ++ [z]) ++ [y] by simp, List.foldl_append]
      rfl
theorem foldl_foldl (acc : List S33) : ∀ (Q m : List S33), (Q.foldl push m).foldl push acc = Q.foldl push (m.foldl push acc)
  | [], _ => rfl
  | y :: Q, m => by
    rw [List.foldl_cons, List.foldl_cons, foldl_foldl acc Q (push m y), foldl_push_push]
/-- Pushing a normal form comes to pushing the list. -/
theorem foldl_joinL (acc Q : List S33) : (joinL Q).foldl push acc = Q.foldl push acc := foldl_foldl acc Q []
theorem joinL_joinL (Q : List S33) : joinL (joinL Q) = joinL Q := foldl_joinL [] Q
theorem joinL_append (P Q : List S33) : joinL (P ++ Q) = Q.foldl push (joinL P) := by unfold joinL; rw [List.foldl_append]
theorem push_app (acc m : List S33) (y z : S33) : push (acc ++ (m ++ [z])) y = acc ++ push (m ++ [z]) y := by
  rw [← List.append_assoc, push_snoc, push_snoc]
  split <;> simp
theorem foldl_app (acc : List S33) : ∀ (Q m : List S33) (z : S33), Q.foldl push (acc ++ (m ++ [z])) = acc ++ Q.foldl push (m ++ [z])
  | [], _, _ => rfl
  | y :: Q, m, z => by
    rw [List.foldl_cons, List.foldl_cons, push_app]
    rcases last_cases (push (m ++ [z]) y) with h | ⟨m', z', h⟩
    · rw [push_snoc] at h
      split at h <;> simp at h
    · rw [h]
      exact foldl_app acc Q m' z'
/-- Two lists with a gap between them. -/
theorem joinL_gap {P Q : List S33} (h : ∀ y z, (joinL P).getLast? = some y → Q.head? = some z → y.f0 + y.f1 ≠ z.f0) : joinL (P ++ Q) = joinL P ++ joinL Q := by
  rw [joinL_append]
  cases Q with
  | nil => simp [joinL]
  | cons z Q =>
    have hp : push (joinL P) z = joinL P ++ [z] := by
      rcases last_cases (joinL P) with e | ⟨m, y, e⟩
      · rw [e]; rfl
      · rw [e, push_snoc, if_neg (fun hh => h y z (by rw [e]; simp) rfl hh.1)]
        simp
    rw [List.foldl_cons, hp]
    exact foldl_app (joinL P) Q [] z
theorem Val.before : ∀ {M R : List S33} {x : S33} {b : Int}, Val b (M ++ x :: R) → ∀ y ∈ M, y.f0 + y.f1 ≤ x.f0 ∧ y.f0 < x.f0
  | [], _, _, _, _, y, h => by simp at h
  | z :: M, R, x, b, ⟨h1, h2, h3⟩, y, h => by
    rcases List.mem_cons.1 h with rfl | h
    · have := (Val.ok h3 x (by simp)).2
      unfold Ok at h1
      omega
    · exact Val.before h3 y h
theorem pos_app {X : Int} : ∀ {M R : List S33}, (∀ y ∈ M, ¬ X < y.f0) → (∀ y ∈ R, X < y.f0) → posE X (M ++ R) = M.length
  | [], [], _, _ => rfl
  | [], y :: R, _, h => by
    show posE X (y :: R) = 0
    simp only [posE]
    rw [if_pos (h y (by simp))]
  | z :: M, R, h1, h2 => by
    simp only [List.cons_append, posE]
    rw [if_neg (h1 z (by simp)), pos_app (fun y hy => h1 y (by simp [hy])) h2]
    rfl
/-- Putting an extent into a list without its range. -/
theorem put_join {P Q : List S33} {x : S33} (h : Val 0 (P ++ x :: Q)) : Val 0 (insE x.f0 (joinL (P ++ Q)) x) ∧ joinL (insE x.f0 (joinL (P ++ Q)) x) = joinL (P ++ x :: Q) ∧ (joinL (P ++ Q)) = joinL P ++ joinL Q := by
  have hP : Val 0 P := Val.left h
  have hx : Val 0 (x :: Q) := Val.right h
  have hox := hx.1
  unfold Ok at hox
  have hQ : Val (x.f0 + x.f1) Q := hx.2.2
  have hJ : Val 0 (joinL P ++ x :: Q) := by
    have h1 : Val 0 (joinL P) := joinL_val hP
    refine Val.append h1 hx (fun y hy => ?_)
    have h2 : ∀ {l acc m : List S33}, Val 0 (acc ++ (l ++ m)) → (∀ y, acc.getLast? = some y → Val (y.f0 + y.f1) (l ++ m)) → (∀ y, (l.foldl push acc).getLast? = some y → Val (y.f0 + y.f1) m) := by
      intro l
      induction l with
      | nil => intro acc m _ h; exact h
      | cons z l ih =>
        intro acc m h3 h4 y hy
        have ha : Val 0 acc := Val.left h3
        have hz : Val 0 (z :: (l ++ m)) := Val.right h3
        have hp := push_val (x := z) ha hz.2.1 hz.1 (fun y hy => (h4 y hy).2.1)
        obtain ⟨w, hw, he⟩ := hp.2
        refine ih (acc := push acc z) (m := m) ?_ (fun y' hy' => ?_) y hy
        · refine Val.append hp.1 ?_ (fun y' hy' => ?_)
          · have := hz.1
            unfold Ok at this
            exact Val.mono (by omega) hz.2.2
          · rw [hw] at hy'; cases hy'; rw [he]; exact hz.2.2
        · rw [hw] at hy'; cases hy'; rw [he]; exact hz.2.2
    exact h2 (l := P) (acc := []) (m := x :: Q) (by simpa using h) (by simp) y hy
  have hJQ : Val 0 (joinL P ++ x :: joinL Q) := by
    refine Val.append (Val.left hJ) ⟨hx.1, hx.2.1, joinL_val hQ⟩ (fun y hy => ?_)
    have h3 := Val.behind hJ y hy
    exact ⟨h3.1, h3.2.1, joinL_val hQ⟩
  have hb := Val.before hJQ
  have hgap : joinL (P ++ Q) = joinL P ++ joinL Q := by
    refine joinL_gap (fun y z hy hz => ?_)
    have h3 := (hb y (List.mem_of_getLast? hy)).1
    have h4 := (Val.ok hQ z (List.mem_of_mem_head? hz)).2
    omega
  have hpos : posE x.f0 (joinL (P ++ Q)) = (joinL P).length := by
    rw [hgap]
    refine pos_app (fun y hy => ?_) (fun y hy => ?_)
    · have := (hb y hy).2
      omega
    · have := (Val.ok (joinL_val hQ) y hy).2
      omega
  have hins : insE x.f0 (joinL (P ++ Q)) x = joinL P ++ x :: joinL Q := by
    unfold insE
    rw [hpos, hgap]
    simp
  rw [hins]
  refine ⟨hJQ, ?_, hgap⟩
  rw [joinL_append, List.foldl_cons, foldl_joinL, joinL_joinL, joinL_append, List.foldl_cons]

def putL (l : List S33) (x : S33) : List S33 × List S33 × Int :=
  if valB 0 l = true ∧ okB x = true then (joinL (partsL l 0 x.f0 ++ x :: partsL l (x.f0 + x.f1) 65536), joinL (partsL l x.f0 (x.f0 + x.f1)), 0) else ([], [], 1)
theorem put_val {l : List S33} {x : S33} (hv : Val 0 l) (hx : Ok x) : Val 0 (partsL l 0 x.f0 ++ x :: partsL l (x.f0 + x.f1) 65536) := by
  have hx' := hx
  unfold Ok at hx'
  have hQ : Val (x.f0 + x.f1) (partsL l (x.f0 + x.f1) 65536) := Val.mono (by omega) (partsL_val2 (a := x.f0 + x.f1) (b := 65536) hv)
  refine Val.append (partsL_val hv) ⟨hx, by omega, hQ⟩ (fun y hy => ?_)
  have := (partsL_in (List.mem_of_getLast? hy)).2
  exact ⟨hx, this, hQ⟩
theorem put_eq (l : List S33) (x : S33) (k : Nat) (hk : 3 * l.length + 5 < k) (hl : l.length ≤ 100000000) : extent_Put.f k l x.f0 x.f1 x.f2 = some (putL l x) := by
  unfold extent_Put.f putL
  rw [proper_eq]
  simp only [Option.bind_some]
  have hok : okB3 x.f0 x.f1 x.f2 = okB x := rfl
  rw [hok]
  by_cases hx : okB x = true
  · have hX := okB_iff.1 hx
    have hX' := hX
    unfold Ok at hX'
    rw [if_pos hx, cut_eq l x.f0 x.f1 k (by omega) (by omega)]
    simp only [Option.bind_some]
    by_cases hv : valB 0 l = true
    · have hV := valB_iff.1 hv
      have hr : rangeB x.f0 x.f1 = true := rangeB_iff.2 (by omega)
      have hc : cutL l x.f0 x.f1 = (joinL (restL l x.f0 (x.f0 + x.f1)), joinL (partsL l x.f0 (x.f0 + x.f1)), 0) := by unfold cutL; rw [if_pos ⟨hv, hr⟩]
      have hlen := (cutL_len l x.f0 x.f1).1
      rw [hc] at hlen ⊢
      simp only at hlen ⊢
      rw [if_pos trivial, if_pos (by omega), if_pos ⟨hv, hx⟩]
      have hp := put_join (put_val hV hX)
      rw [restL_parts hV (by omega)] at hlen ⊢
      have hil := insE_len x.f0 (joinL (partsL l 0 x.f0 ++ partsL l (x.f0 + x.f1) 65536)) x
      rw [show (⟨x.f0, x.f1, x.f2⟩ : S33) = x from rfl, join_eq _ k (by omega) (by omega), if_pos (valB_iff.2 hp.1), hp.2.1]
      rfl
    · have hc : cutL l x.f0 x.f1 = ([], [], 1) := by unfold cutL; rw [if_neg (fun h => hv h.1)]
      rw [hc, if_neg (by simp), if_neg (fun h => hv h.1)]
  · rw [if_neg hx, if_neg (fun h => hx h.2)]
theorem putL_len (l : List S33) (x : S33) : (putL l x).1.length ≤ 2 * l.length + 1 ∧ (putL l x).2.1.length ≤ l.length := by
  unfold putL
  split
  · have h1 := joinL_len (partsL l 0 x.f0 ++ x :: partsL l (x.f0 + x.f1) 65536)
    have h2 := joinL_len (partsL l x.f0 (x.f0 + x.f1))
    have e1 := partsL_len l 0 x.f0
    have e2 := partsL_len l (x.f0 + x.f1) 65536
    have e3 := partsL_len l x.f0 (x.f0 + x.f1)
    simp only [List.length_append, List.length_cons] at h1 ⊢
    omega
  · simp
end Go.Proofs.Ytcgihjpnemnkeaa.PExtentRestores
