/- The document's changes of a map, and its number of free slots. -/
import Derived.Test.YtcjpikjbjehjeaaAlo2AllocB
namespace Go.Proofs.Ytcjpikjbjehjeaa.PAllocB
open Go.RowKit Go.Proofs.YtcjpikjbjehjeaaW.PrintWords
set_option linter.unusedVariables false
set_option linter.unusedSimpArgs false
/-- Marks set from slot s on, n of them. -/
def setM (P : Int → Bool) : Nat → Int → List Bool → List Bool
  | 0, _, m => m
  | n + 1, s, m => setM P n (s + 1) (m.set s.toNat (P s))
theorem setM_len (P : Int → Bool) : ∀ (n : Nat) (s : Int) (m : List Bool), (setM P n s m).length = m.length
  | 0, _, _ => rfl
  | n + 1, s, m => by rw [setM, setM_len, List.length_set]
theorem rdOf_set {α : Type} (d : α) (m : List α) (s t : Int) (b : α) (hs : 0 ≤ s) (hm : s < m.length) (ht : 0 ≤ t) : rdOf d (m.set s.toNat b) t = if t = s then b else rdOf d m t := by
  unfold rdOf
  rw [List.getD_eq_getElem?_getD, List.getD_eq_getElem?_getD, List.getElem?_set]
  by_cases h : t = s
  · subst h
    rw [if_pos rfl, if_pos (by omega), if_pos rfl]
    rfl
  · rw [if_neg (by omega), if_neg h]
theorem setM_get (P : Int → Bool) : ∀ (n : Nat) (s : Int) (m : List Bool) (t : Int), 0 ≤ s → s + n ≤ m.length → 0 ≤ t → rdOf false (setM P n s m) t = if s ≤ t ∧ t < s + n then P t else rdOf false m t
  | 0, s, m, t, _, _, _ => by rw [setM, if_neg (by omega)]
  | n + 1, s, m, t, h0, h1, h2 => by
    rw [setM, setM_get P n (s + 1) _ t (by omega) (by rw [List.length_set]; omega) h2, rdOf_set false m s t (P s) h0 (by omega) h2]
    by_cases h : t = s
    · subst h
      rw [if_neg (by omega), if_pos rfl, if_pos (by omega)]
    · rw [if_neg h]
      by_cases h3 : s + 1 ≤ t ∧ t < s + 1 + n
      · rw [if_pos h3, if_pos (by omega)]
      · rw [if_neg h3, if_neg (by omega)]
theorem rfree_loop (m : List Bool) (hm : m.length ≤ 65536) : ∀ (d : Nat) (s acc : Int), 0 ≤ s → s + d = m.length → 0 ≤ acc → acc + d ≤ 1000000 → Ev (fun k => tegularef35_Map_Free.l0 k m acc s) (acc + numP (fun t => !rdOf false m t) s d)
  | 0, s, acc, h0, h1, h2, h3 => by
    refine Ev.succ (g := fun _ => some acc) (fun k => ?_) (Ev.now fun _ => by rw [numP, Int.add_zero])
    simp only [tegularef35_Map_Free.l0]
    rw [if_neg (by omega)]
  | d + 1, s, acc, h0, h1, h2, h3 => by
    rw [numP]
    by_cases hp : rdOf false m s = true
    · have ih := rfree_loop m hm d (s + 1) acc (by omega) (by omega) h2 (by omega)
      rw [if_neg (by simp [hp]), Int.zero_add]
      refine Ev.succ (fun k => ?_) ih
      simp only [tegularef35_Map_Free.l0]
      rw [if_pos (by omega), if_pos (by omega), if_pos hp, w64 (n := s + 1) (by omega) (by omega)]
    · have ih := rfree_loop m hm d (s + 1) (acc + 1) (by omega) (by omega) (by omega) (by omega)
      rw [if_pos (by simp [Bool.eq_false_iff.2 hp]), ← Int.add_assoc]
      refine Ev.succ (fun k => ?_) ih
      simp only [tegularef35_Map_Free.l0]
      rw [if_pos (by omega), if_pos (by omega), if_neg hp, w64 (n := acc + 1) (by omega) (by omega), w64 (n := s + 1) (by omega) (by omega)]
theorem rfree_eq (m : List Bool) (hm : m.length ≤ 65536) : Ev (fun k => tegularef35_Map_Free.f k m) (numP (fun t => !rdOf false m t) 0 m.length) := by
  have h := rfree_loop m hm m.length 0 0 (by omega) (by omega) (by omega) (by omega)
  rw [Int.zero_add] at h
  exact h
/-- How many slots are listed. -/
theorem covB_append (a b : List S53) (t : Int) : covB (a ++ b) t = (covB a t || covB b t) := by unfold covB; rw [List.any_append]
theorem covB_one (x : S53) (t : Int) : covB [x] t = inI x.f2 x.f1 t := by unfold covB inI; simp
theorem num_one {N : Nat} {x : S53} (h : okL N x) : numP (inI x.f2 x.f1) 0 N = x.f1 := by
  obtain ⟨h1, h2, h3⟩ := h
  have := numP_inI x.f2 x.f1.toNat N h2 (by omega)
  rw [show ((x.f1.toNat : Nat) : Int) = x.f1 by omega] at this
  exact this
theorem numP_le {P Q R : Int → Bool} : ∀ {n : Nat} {s : Int}, (∀ t, s ≤ t → t < s + n → P t = true → Q t = true ∨ R t = true) → numP P s n ≤ numP Q s n + numP R s n
  | 0, _, _ => Int.le_refl _
  | n + 1, s, h => by
    have ih := numP_le (n := n) (s := s + 1) fun t h1 h2 => h t (by omega) (by omega)
    rw [numP, numP, numP]
    have := h s (Int.le_refl _) (by omega)
    split
    · rename_i hp
      rcases this hp with hq | hq
      · rw [if_pos hq]
        split <;> omega
      · rw [if_pos hq]
        split <;> omega
    · split <;> split <;> omega
theorem num_append_le (a b : List S53) (N : Nat) : numP (covB (a ++ b)) 0 N ≤ numP (covB a) 0 N + numP (covB b) 0 N :=
  numP_le fun t _ _ h => by rw [covB_append, Bool.or_eq_true] at h; exact h
theorem num_le_lenS {N : Nat} : ∀ {l : List S53}, (∀ x ∈ l, okL N x) → numP (covB l) 0 N ≤ lenS l
  | [], _ => by
    have e : numP (covB []) 0 N = 0 := numP_false fun t _ _ => rfl
    rw [e]
    exact Int.le_refl _
  | x :: l, h => by
    have h1 := num_append_le [x] l N
    rw [List.singleton_append] at h1
    have h2 : numP (covB [x]) 0 N = x.f1 := (numP_congr fun t _ _ => covB_one x t).trans (num_one (h x List.mem_cons_self))
    have h3 := num_le_lenS fun y hy => h y (List.mem_cons_of_mem _ hy)
    rw [lenS]
    omega
theorem num_snoc {N : Nat} {pre : List S53} {x : S53} (h : okL N x) : numP (covB (pre ++ [x])) 0 N + numP (fun t => covB pre t && inI x.f2 x.f1 t) 0 N = numP (covB pre) 0 N + x.f1 := by
  have e1 : numP (covB (pre ++ [x])) 0 N = numP (covB pre) 0 N + numP (fun t => !covB pre t && inI x.f2 x.f1 t) 0 N := numP_lin fun t _ _ => by
    rw [covB_append, covB_one]
    cases covB pre t <;> cases inI x.f2 x.f1 t <;> simp
  have e2 : numP (inI x.f2 x.f1) 0 N = numP (fun t => covB pre t && inI x.f2 x.f1 t) 0 N + numP (fun t => !covB pre t && inI x.f2 x.f1 t) 0 N := numP_lin fun t _ _ => by
    cases covB pre t <;> cases inI x.f2 x.f1 t <;> simp
  have := num_one h
  omega
theorem ch_inner {m : List Bool} {l : List S53} {used : Bool} {out : List Bool} (hm : m.length ≤ 65536) (i : Int) (h0 : 0 ≤ i) (h1 : i < l.length) (x : S53) (hx : rd_T53 l i = x) (hok : okL m.length x) :
    ∀ (d : Nat) (s : Int) (m1 : List Bool), x.f2 ≤ s → s + d = x.f2 + x.f1 → m1.length = m.length →
      ((∀ t, s ≤ t → t < s + d → rdOf false m1 t = false) → ∀ r, Ev (fun k => tegularef35_Map_change.l0 k m l used out (setM (fun _ => true) d s m1) (wrap64 (i + 1))) r → Ev (fun k => tegularef35_Map_change.l1 k m l used out m1 i s) r) ∧
      ((∃ t, s ≤ t ∧ t < s + d ∧ rdOf false m1 t = true) → Ev (fun k => tegularef35_Map_change.l1 k m l used out m1 i s) ([], 2))
  | 0, s, m1, h2, h3, h4 => by
    obtain ⟨o1, o2, o3⟩ := hok
    refine ⟨fun _ r h => Ev.succ (fun k => ?_) h, fun ⟨t, h5, h6, _⟩ => by omega⟩
    simp only [tegularef35_Map_change.l1]
    rw [if_pos h0, if_pos h1, hx, w64 (n := x.f2 + x.f1) (by omega) (by omega), if_neg (by omega)]
    rfl
  | d + 1, s, m1, h2, h3, h4 => by
    have hok' := hok
    obtain ⟨o1, o2, o3⟩ := hok'
    have ih := ch_inner (used := used) (out := out) hm i h0 h1 x hx hok d (s + 1) (m1.set s.toNat true) (by omega) (by omega) (by rw [List.length_set]; exact h4)
    have hs : ∀ t, 0 ≤ t → rdOf false (m1.set s.toNat true) t = if t = s then true else rdOf false m1 t := fun t ht => rdOf_set false m1 s t true (by omega) (by omega) ht
    have hun : ∀ k, tegularef35_Map_change.l1 (k + 1) m l used out m1 i s = if rdOf false m1 s = true then some ([], 2) else tegularef35_Map_change.l1 k m l used out (m1.set s.toNat true) i (s + 1) := fun k => by
      simp only [tegularef35_Map_change.l1]
      rw [if_pos h0, if_pos h1, hx, w64 (n := x.f2 + x.f1) (by omega) (by omega), if_pos (by omega), if_pos (by omega), if_pos (by omega), w64 (n := s + 1) (by omega) (by omega)]
    constructor
    · intro h r hr
      refine Ev.succ (fun k => ?_) (ih.1 (fun t h5 h6 => ?_) r hr)
      · rw [hun k, if_neg (by rw [h s (by omega) (by omega)]; decide)]
      · rw [hs t (by omega), if_neg (by omega)]
        exact h t (by omega) (by omega)
    · rintro ⟨t, h5, h6, h7⟩
      by_cases hp : rdOf false m1 s = true
      · exact Ev.succ (g := fun _ => some ([], 2)) (fun k => by rw [hun k, if_pos hp]) (Ev.now fun _ => rfl)
      · refine Ev.succ (fun k => ?_) (ih.2 ⟨t, ?_, by omega, ?_⟩)
        · rw [hun k, if_neg hp]
        · by_cases ht : t = s
          · subst ht
            exact absurd h7 hp
          · omega
        · rw [hs t (by omega)]
          split
          · rfl
          · exact h7
theorem ch_loop {m : List Bool} {used : Bool} {out : List Bool} (hm : m.length ≤ 65536) : ∀ (rest pre : List S53) (m1 : List Bool), (pre ++ rest).length ≤ 1000000 → m1.length = m.length → (∀ t : Int, 0 ≤ t → t < m.length → rdOf false m1 t = covB pre t) → (∀ x ∈ pre, okL m.length x) → lenS pre = numP (covB pre) 0 m.length →
    (permB m.length rest = true → lenS (pre ++ rest) = numP (covB (pre ++ rest)) 0 m.length → ∃ m2 : List Bool, m2.length = m.length ∧ (∀ t : Int, 0 ≤ t → t < m.length → rdOf false m2 t = covB (pre ++ rest) t) ∧ ∀ r, Ev (fun k => tegularef35_Map_change.l2 k m used out m2 0) r → Ev (fun k => tegularef35_Map_change.l0 k m (pre ++ rest) used out m1 (pre.length : Int)) r) ∧
    (¬ (permB m.length rest = true ∧ lenS (pre ++ rest) = numP (covB (pre ++ rest)) 0 m.length) → Ev (fun k => tegularef35_Map_change.l0 k m (pre ++ rest) used out m1 (pre.length : Int)) ([], 2))
  | [], pre, m1, hlen, h1, h2, h3, h4 => by
    rw [List.append_nil]
    refine ⟨fun _ _ => ⟨m1, h1, h2, fun r h => Ev.succ (fun k => ?_) h⟩, fun h => absurd ⟨rfl, h4⟩ h⟩
    simp only [tegularef35_Map_change.l0]
    rw [if_neg (by omega)]
  | x :: rest, pre, m1, hlen, h1, h2, h3, h4 => by
    have hnext := next_mid pre x rest (by omega)
    have hp : permB m.length (x :: rest) = (decide (okL m.length x) && permB m.length rest) := rfl
    have hlt := len_mid pre x rest
    by_cases ho : okL m.length x
    · rw [hp, decide_eq_true ho, Bool.true_and]
      have ho' := ho
      obtain ⟨o1, o2, o3⟩ := ho'
      have hin := ch_inner (l := pre ++ x :: rest) (used := used) (out := out) hm (pre.length : Int) (by omega) hlt x (rd_mid pre x rest) ho x.f1.toNat x.f2 m1 (Int.le_refl _) (by omega) h1
      have hj : ∀ r, Ev (fun k => tegularef35_Map_change.l1 k m (pre ++ x :: rest) used out m1 (pre.length : Int) x.f2) r → Ev (fun k => tegularef35_Map_change.l0 k m (pre ++ x :: rest) used out m1 (pre.length : Int)) r := fun r h => by
        refine Ev.succ (g := fun k => tegularef35_Map_change.j1 k m (pre ++ x :: rest) used out m1 (pre.length : Int) false) (fun k => ?_) (Ev.succ (fun k => ?_) h)
        · simp only [tegularef35_Map_change.l0]
          rw [if_pos hlt, if_pos (by omega), rd_mid, if_neg (by omega), if_neg (by omega), if_neg (by omega), w64 (n := (m.length : Int) - x.f2) (by omega) (by omega), decide_eq_false (by omega)]
        · simp only [tegularef35_Map_change.j1]
          rw [if_neg (by decide), if_pos (by omega), if_pos hlt, rd_mid]
      have hsn := num_snoc (pre := pre) ho
      by_cases hov : ∃ t, x.f2 ≤ t ∧ t < x.f2 + (x.f1.toNat : Int) ∧ rdOf false m1 t = true
      · refine ⟨fun hp' hl' => ?_, fun _ => hj _ (hin.2 hov)⟩
        exfalso
        obtain ⟨t, ht1, ht2, ht3⟩ := hov
        rw [h2 t (by omega) (by omega)] at ht3
        have hpos : numP (fun t => covB pre t && inI x.f2 x.f1 t) 0 m.length ≠ 0 := fun hz => by
          have := numP_eq_zero hz t (by omega) (by omega)
          simp only [ht3, Bool.true_and] at this
          unfold inI at this
          rw [decide_eq_true (by omega)] at this
          cases this
        have hb := (numP_bound (fun t => covB pre t && inI x.f2 x.f1 t) m.length 0).1
        have e : pre ++ x :: rest = (pre ++ [x]) ++ rest := by rw [List.append_assoc, List.singleton_append]
        have h5 := num_append_le (pre ++ [x]) rest m.length
        have h6 := num_le_lenS (permB_iff.1 hp')
        rw [e, lenS_append, lenS_append, lenS, lenS] at hl'
        omega
      · have hno : ∀ t, x.f2 ≤ t → t < x.f2 + (x.f1.toNat : Int) → rdOf false m1 t = false := fun t ht1 ht2 => Bool.eq_false_iff.2 fun h => hov ⟨t, ht1, ht2, h⟩
        have hz : numP (fun t => covB pre t && inI x.f2 x.f1 t) 0 m.length = 0 := numP_false fun t ht1 ht2 => by
          cases hi : inI x.f2 x.f1 t
          · simp
          · unfold inI at hi
            have hi := of_decide_eq_true hi
            rw [← h2 t ht1 (by omega), hno t (by omega) (by omega)]
            rfl
        have ih := ch_loop (used := used) (out := out) hm rest (pre ++ [x]) (setM (fun _ => true) x.f1.toNat x.f2 m1) (by simpa using hlen) (by rw [setM_len]; exact h1) (fun t ht1 ht2 => by
            rw [setM_get _ _ _ _ _ o2 (by omega) ht1, covB_append, covB_one, h2 t ht1 ht2]
            unfold inI
            by_cases hi : x.f2 ≤ t ∧ t < x.f2 + x.f1
            · rw [if_pos (by omega), decide_eq_true hi, Bool.or_true]
            · rw [if_neg (by omega), decide_eq_false hi, Bool.or_false]) (fun y hy => by
            rcases List.mem_append.1 hy with hy | hy
            · exact h3 y hy
            · rw [List.mem_singleton.1 hy]
              exact ho) (by rw [lenS_append, lenS, lenS]; omega)
        rw [List.append_assoc, List.singleton_append, ← hnext] at ih
        refine ⟨fun hp' hl' => ?_, fun h => hj _ (hin.1 hno _ (ih.2 h))⟩
        obtain ⟨m2, a1, a2, a3⟩ := ih.1 hp' hl'
        exact ⟨m2, a1, a2, fun r h => hj r (hin.1 hno r (a3 r h))⟩
    · rw [hp, decide_eq_false ho, Bool.false_and]
      refine ⟨fun h => (by cases h), fun _ => ?_⟩
      refine Ev.succ (g := fun k => tegularef35_Map_change.j1 k m (pre ++ x :: rest) used out m1 (pre.length : Int) true) (fun k => ?_) (Ev.succ (g := fun _ => some ([], 2)) (fun k => ?_) (Ev.now fun _ => rfl))
      · simp only [tegularef35_Map_change.l0]
        rw [if_pos hlt, if_pos (by omega), rd_mid]
        unfold okL at ho
        by_cases h5 : x.f1 < 1
        · rw [if_pos h5]
        · by_cases h6 : x.f2 < 0
          · rw [if_neg h5, if_pos h6]
          · by_cases h7 : x.f2 ≥ (m.length : Int)
            · rw [if_neg h5, if_neg h6, if_pos h7]
            · rw [if_neg h5, if_neg h6, if_neg h7, w64 (n := (m.length : Int) - x.f2) (by omega) (by omega), decide_eq_true (by omega)]
      · simp only [tegularef35_Map_change.j1]
        rw [if_pos trivial]
/-- What is written where slots are listed. -/
def setL (li : List Bool) (used : Bool) : Nat → Int → List Bool → List Bool
  | 0, _, o => o
  | d + 1, s, o => setL li used d (s + 1) (if rdOf false li s = true then o.set s.toNat used else o)
theorem setL_len (li : List Bool) (used : Bool) : ∀ (d : Nat) (s : Int) (o : List Bool), (setL li used d s o).length = o.length
  | 0, _, _ => rfl
  | d + 1, s, o => by rw [setL, setL_len]; split <;> simp
theorem setL_get (li : List Bool) (used : Bool) : ∀ (d : Nat) (s : Int) (o : List Bool) (t : Int), 0 ≤ s → s + d ≤ o.length → 0 ≤ t → rdOf false (setL li used d s o) t = if s ≤ t ∧ t < s + d ∧ rdOf false li t = true then used else rdOf false o t
  | 0, s, o, t, _, _, _ => by rw [setL, if_neg (by omega)]
  | d + 1, s, o, t, h0, h1, h2 => by
    have hl : (if rdOf false li s = true then o.set s.toNat used else o).length = o.length := by split <;> simp
    rw [setL, setL_get li used d (s + 1) _ t (by omega) (by omega) h2]
    have hg : rdOf false (if rdOf false li s = true then o.set s.toNat used else o) t = if t = s ∧ rdOf false li s = true then used else rdOf false o t := by
      by_cases hs : rdOf false li s = true
      · rw [if_pos hs, rdOf_set false o s t used h0 (by omega) h2]
        by_cases ht : t = s
        · rw [if_pos ht, if_pos ⟨ht, hs⟩]
        · rw [if_neg ht, if_neg fun h => ht h.1]
      · rw [if_neg hs, if_neg fun h => hs h.2]
    rw [hg]
    by_cases ht : t = s
    · subst ht
      rw [if_neg (by omega)]
      by_cases hs : rdOf false li t = true
      · rw [if_pos ⟨rfl, hs⟩, if_pos ⟨by omega, by omega, hs⟩]
      · rw [if_neg fun h => hs h.2, if_neg fun h => hs h.2.2]
    · rw [if_neg (c := t = s ∧ rdOf false li s = true) fun h => ht h.1]
      by_cases hs : s + 1 ≤ t ∧ t < s + 1 + d ∧ rdOf false li t = true
      · rw [if_pos hs, if_pos ⟨by omega, by omega, hs.2.2⟩]
      · rw [if_neg hs, if_neg fun h => hs ⟨by omega, by omega, h.2.2⟩]
theorem ch_last {m li : List Bool} {used : Bool} (hm : m.length ≤ 65536) (hli : li.length = m.length) : ∀ (d : Nat) (s : Int) (o : List Bool), 0 ≤ s → s + d = m.length → o.length = m.length →
    ((∀ t, s ≤ t → t < s + d → rdOf false li t = true → rdOf false m t ≠ used) → Ev (fun k => tegularef35_Map_change.l2 k m used o li s) (setL li used d s o, 0)) ∧
    ((∃ t, s ≤ t ∧ t < s + d ∧ rdOf false li t = true ∧ rdOf false m t = used) → Ev (fun k => tegularef35_Map_change.l2 k m used o li s) ([], 8))
  | 0, s, o, h0, h1, h2 => by
    refine ⟨fun _ => Ev.succ (g := fun _ => some (o, 0)) (fun k => ?_) (Ev.now fun _ => rfl), fun ⟨t, h5, h6, _⟩ => by omega⟩
    simp only [tegularef35_Map_change.l2]
    rw [if_neg (by omega)]
  | d + 1, s, o, h0, h1, h2 => by
    rw [setL]
    by_cases hl : rdOf false li s = true
    · by_cases hu : rdOf false m s = used
      · refine ⟨fun h => absurd hu (h s (by omega) (by omega) hl), fun _ => Ev.succ (g := fun _ => some ([], 8)) (fun k => ?_) (Ev.now fun _ => rfl)⟩
        simp only [tegularef35_Map_change.l2]
        rw [if_pos (by omega), if_pos (by omega), if_pos (by omega), if_pos hl, if_pos (by simp [hu])]
      · have ih := ch_last (used := used) hm hli d (s + 1) (o.set s.toNat used) (by omega) (by omega) (by rw [List.length_set]; exact h2)
        have hk : ∀ k, tegularef35_Map_change.l2 (k + 1) m used o li s = tegularef35_Map_change.l2 k m used (o.set s.toNat used) li (s + 1) := fun k => by
          simp only [tegularef35_Map_change.l2]
          rw [if_pos (by omega), if_pos (by omega), if_pos (by omega), if_pos hl, if_neg (by simp [hu]), if_pos (by omega), w64 (n := s + 1) (by omega) (by omega)]
        rw [if_pos hl]
        refine ⟨fun h => Ev.succ hk (ih.1 fun t h5 h6 => h t (by omega) (by omega)), fun ⟨t, h5, h6, h7, h8⟩ => Ev.succ hk (ih.2 ⟨t, ?_, by omega, h7, h8⟩)⟩
        by_cases ht : t = s
        · subst ht
          exact absurd h8 hu
        · omega
    · have ih := ch_last (used := used) hm hli d (s + 1) o (by omega) (by omega) h2
      have hk : ∀ k, tegularef35_Map_change.l2 (k + 1) m used o li s = tegularef35_Map_change.l2 k m used o li (s + 1) := fun k => by
        simp only [tegularef35_Map_change.l2]
        rw [if_pos (by omega), if_pos (by omega), if_pos (by omega), if_neg hl, w64 (n := s + 1) (by omega) (by omega)]
      rw [if_neg hl]
      refine ⟨fun h => Ev.succ hk (ih.1 fun t h5 h6 => h t (by omega) (by omega)), fun ⟨t, h5, h6, h7, h8⟩ => Ev.succ hk (ih.2 ⟨t, ?_, by omega, h7, h8⟩)⟩
      by_cases ht : t = s
      · subst ht
        exact absurd h7 hl
      · omega
theorem permL_iff {N : Nat} {l : List S53} (hN : N ≤ 65536) (hl : l.length ≤ 1000) : permL N l ↔ permB N l = true ∧ lenS l = numP (covB l) 0 N := by
  have key : ∀ {R : List S53}, permB N l = true → IsRuns (Cov l) R → lenS R = numP (covB l) 0 N := fun hp hR => by
    rw [runs_num hR (ro_cov_ok hp)]
    refine numP_congr fun t _ _ => ?_
    rw [Bool.eq_iff_iff, covB_iff, covB_iff]
    exact hR.2.2 t
  constructor
  · rintro ⟨hp, h⟩
    obtain ⟨R, _, hR⟩ := permitted_eq N (by omega) (by omega) [] l hl hp
    exact ⟨hp, (h R hR).symm.trans (key hp hR)⟩
  · rintro ⟨hp, h⟩
    exact ⟨hp, fun R hR => (key hp hR).trans h.symm⟩
theorem change_eq (m : List Bool) (hm : m.length ≤ 65536) (l : List S53) (hl : l.length ≤ 1000) (used : Bool) :
    (¬ permL m.length l → Ev (fun k => tegularef35_Map_change.f k m l used) ([], 2)) ∧
    (permL m.length l → (∃ t, Cov l t ∧ rdOf false m t = used) → Ev (fun k => tegularef35_Map_change.f k m l used) ([], 8)) ∧
    (permL m.length l → (∀ t, Cov l t → rdOf false m t ≠ used) → ∃ m' : List Bool, Ev (fun k => tegularef35_Map_change.f k m l used) (m', 0) ∧ m'.length = m.length ∧ ∀ t : Int, 0 ≤ t → t < m.length → rdOf false m' t = if covB l t = true then used else rdOf false m t) := by
  have hf : ∀ r, Ev (fun k => tegularef35_Map_change.l0 k m l used m (List.replicate m.length false) 0) r → Ev (fun k => tegularef35_Map_change.f k m l used) r := fun r h => by
    refine Ev.same (fun k => ?_) h
    unfold tegularef35_Map_change.f
    simp only [Option.bind_some, List.length_nil, List.nil_append, Nat.zero_add, Int.toNat_natCast]
    rw [if_pos (by omega), if_pos (by omega), if_pos (by omega)]
  have hr : ∀ t : Int, 0 ≤ t → t < m.length → rdOf false (List.replicate m.length false) t = covB [] t := fun t h0 h1 => by
    unfold rdOf
    rw [List.getD_eq_getElem?_getD, List.getElem?_replicate]
    split <;> rfl
  have h := ch_loop (used := used) (out := m) hm l [] (List.replicate m.length false) (by simpa using (by omega)) (by simp) hr (by simp) (numP_false fun t _ _ => rfl).symm
  simp only [List.nil_append] at h
  rw [permL_iff hm hl]
  refine ⟨fun hn => hf _ (h.2 hn), fun hp ⟨t, ht, hu⟩ => ?_, fun hp hall => ?_⟩
  · obtain ⟨m2, a1, a2, a3⟩ := h.1 hp.1 hp.2
    have hb := ro_cov_ok hp.1 t ht
    exact hf _ (a3 _ ((ch_last (used := used) hm a1 m.length 0 m (by omega) (by omega) rfl).2 ⟨t, hb.1, by omega, by rw [a2 t hb.1 hb.2]; exact covB_iff.2 ht, hu⟩))
  · obtain ⟨m2, a1, a2, a3⟩ := h.1 hp.1 hp.2
    refine ⟨_, hf _ (a3 _ ((ch_last (used := used) hm a1 m.length 0 m (by omega) (by omega) rfl).1 fun t h1 h2 h3 => hall t (covB_iff.1 (by rw [← a2 t h1 (by omega)]; exact h3)))), setL_len _ _ _ _ _, fun t h1 h2 => ?_⟩
    rw [setL_get m2 used m.length 0 m t (by omega) (by omega) h1, a2 t h1 h2]
    by_cases hc : covB l t = true
    · rw [if_pos hc, if_pos ⟨h1, by omega, hc⟩]
    · rw [if_neg hc, if_neg fun h => hc h.2.2]
end Go.Proofs.Ytcjpikjbjehjeaa.PAllocB
