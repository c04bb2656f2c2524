/- What the printed functions over lists of extents answer: Valid, Join, Cut and the reference's. -/
import Derived.Test.YtcgihjpnemnkeaaExt1ExtentMaps
namespace Go.Proofs.Ytcgihjpnemnkeaa.PExtentMaps
open Go.RowKit Go.Proofs.YtcgihjpnemnkeaaW.PrintWords

theorem rd_mid (pre : List S33) (x : S33) (rest : List S33) : rd_T33 (pre ++ x :: rest) (pre.length : Int) = x := by simp [rd_T33, List.getD]
theorem rd_last (pre : List S33) (y : S33) (rest : List S33) {i : Int} (hi : i = ((pre ++ [y]).length : Int) - 1) : rd_T33 (pre ++ [y] ++ rest) i = y := by
  subst hi
  simp [rd_T33, List.getD]
theorem len_mid (pre : List S33) (x : S33) (rest : List S33) : (pre.length : Int) < ((pre ++ x :: rest).length : Int) := by simp; omega
theorem next_mid (pre : List S33) (x : S33) (rest : List S33) (h : (pre ++ x :: rest).length ≤ 9223372036854775807) : wrap64 ((pre.length : Int) + 1) = ((pre ++ [x]).length : Int) := by
  simp at h
  rw [w64 (by omega) (by omega)]
  simp

theorem within_eq (a n s : Int) (hs : 0 ≤ s) (hs2 : s ≤ 65536) : extent_within.f a n s = some (decide (0 ≤ a ∧ 0 ≤ n ∧ a + n ≤ s)) := by
  unfold extent_within.f
  by_cases h1 : a ≥ 0
  · by_cases h2 : n ≥ 0
    · by_cases h3 : a ≤ s
      · rw [if_pos h1, if_pos h2, if_pos h3, w64 (by omega) (by omega)]
        congr 1
        rw [decide_eq_decide]
        omega
      · rw [if_pos h1, if_pos h2, if_neg h3]
        congr 1
        symm
        rw [decide_eq_false_iff_not]
        omega
    · rw [if_pos h1, if_neg h2]
      congr 1
      symm
      rw [decide_eq_false_iff_not]
      omega
  · rw [if_neg h1]
    congr 1
    symm
    rw [decide_eq_false_iff_not]
    omega
theorem proper_eq (a n s : Int) : extent_proper.f a n s = some (okB3 a n s) := by
  unfold extent_proper.f
  rw [within_eq _ _ _ (by omega) (by omega), within_eq _ _ _ (by omega) (by omega)]
  unfold okB3
  simp only [Option.bind_some]
  by_cases h1 : n ≥ 1
  · rw [if_pos h1]
    by_cases h2 : 0 ≤ a ∧ 0 ≤ n ∧ a + n ≤ 65536
    · rw [if_pos (by simpa using h2)]
      exact congrArg some (decide_eq_decide.2 (by omega))
    · rw [if_neg (by simpa using h2)]
      exact congrArg some (decide_eq_false (by omega)).symm
  · rw [if_neg h1]
    exact congrArg some (decide_eq_false (by omega)).symm
theorem end_eq {x : S33} (h : Ok x) : extent_end.f x.f0 x.f1 x.f2 = some (x.f0 + x.f1) := by
  unfold Ok at h
  unfold extent_end.f
  rw [w64 (by omega) (by omega)]

theorem valid_loop : ∀ (rest pre : List S33) (k : Nat), rest.length < k → (pre ++ rest).length ≤ 9223372036854775807 → (∀ y, pre.getLast? = some y → Ok y) →
    extent_Valid.l0 k (pre ++ rest) (pre ++ rest) ((pre ++ rest).length : Int) (pre.length : Int) = some (valB (if pre = [] then rest.head?.elim 0 S33.f0 else endOf pre) rest)
  | [], pre, k, hk, _, _ => by
    obtain ⟨k, rfl⟩ : ∃ m, k = m + 1 := ⟨k - 1, by simp at hk; omega⟩
    simp only [extent_Valid.l0]
    rw [if_neg (by simp)]
    rfl
  | x :: rest, pre, k, hk, hl, ho => by
    obtain ⟨k, rfl⟩ : ∃ m, k = m + 1 := ⟨k - 1, by omega⟩
    simp only [extent_Valid.l0]
    rw [if_pos (len_mid pre x rest), if_pos (by omega), if_pos (len_mid pre x rest), rd_mid, proper_eq]
    simp only [Option.bind_some]
    have hn := next_mid pre x rest hl
    have hx : okB3 x.f0 x.f1 x.f2 = okB x := rfl
    rw [hx]
    by_cases hok : okB x = true
    · rw [if_pos hok]
      have hok' := okB_iff.1 hok
      have ih := valid_loop rest (pre ++ [x]) k (by simp at hk; omega) (by simpa using hl) (fun y hy => by simp at hy; subst hy; exact hok')
      rw [List.append_assoc, List.singleton_append] at ih
      rw [if_neg (show ¬(pre ++ [x] = []) by simp), endOf_snoc] at ih
      rcases last_cases pre with rfl | ⟨m, y, rfl⟩
      · rw [if_neg (by simp), hn, ih]
        simp [valB, hok]
      · have hy := ho y (by simp)
        have hle : (((m ++ [y]).length : Nat) : Int) = (m.length : Int) + 1 := by simp
        have hl2 : (m.length : Int) + 1 ≤ 9223372036854775807 := by simp at hl; omega
        have e1 : wrap64 (((m ++ [y]).length : Int) - 1) = ((m ++ [y]).length : Int) - 1 := by rw [w64 (by omega) (by omega)]
        rw [if_pos (by rw [hle]; omega), e1, if_pos (by rw [hle]; omega), if_pos (by have := len_mid (m ++ [y]) x rest; omega), rd_last m y (x :: rest) rfl, end_eq hy, hn, ih]
        simp only [Option.bind_some]
        rw [if_neg (show ¬(m ++ [y] = []) by simp), endOf_snoc]
        by_cases hlt : x.f0 < y.f0 + y.f1
        · rw [if_pos hlt]
          simp only [valB]
          rw [decide_eq_false (show ¬ (y.f0 + y.f1 ≤ x.f0) by omega)]
          simp
        · rw [if_neg hlt]
          simp only [valB]
          rw [hok, decide_eq_true (show y.f0 + y.f1 ≤ x.f0 by omega)]
          simp
    · rw [if_neg hok]
      simp only [valB]
      simp only [Bool.not_eq_true] at hok
      rw [hok]
      simp
theorem valB_head (l : List S33) : valB (l.head?.elim 0 S33.f0) l = valB 0 l := by
  cases l with
  | nil => rfl
  | cons x l =>
    show (okB x && (decide (x.f0 ≤ x.f0) && valB (x.f0 + x.f1) l)) = (okB x && (decide (0 ≤ x.f0) && valB (x.f0 + x.f1) l))
    by_cases h : okB x = true
    · have := okB_iff.1 h
      unfold Ok at this
      rw [decide_eq_true (show x.f0 ≤ x.f0 by omega), decide_eq_true (show (0:Int) ≤ x.f0 by omega)]
    · simp only [Bool.not_eq_true] at h
      rw [h]; rfl
theorem valid_eq (l : List S33) (k : Nat) (hk : l.length < k) (hl : l.length ≤ 9223372036854775807) : extent_Valid.f k l = some (valB 0 l) := by
  unfold extent_Valid.f
  have := valid_loop l [] k hk (by simpa using hl) (by simp)
  simp only [List.nil_append, List.length_nil, if_true] at this
  rw [valB_head] at this
  exact this

theorem push_eq {l : List S33} {x : S33} {b : Int} (hl : l.length < 5864062014805) (h : Val b l) (hx : Ok x) : extent_push.f l x.f0 x.f1 x.f2 = some (push l x) := by
  unfold extent_push.f
  have hx0 : (⟨x.f0, x.f1, x.f2⟩ : S33) = x := rfl
  rcases last_cases l with rfl | ⟨m, y, rfl⟩
  · rw [if_neg (by rw [w64 (by simp) (by simp)]; simp)]
    simp
  · have hy := (Val.ok h y (by simp)).1
    have hle : (((m ++ [y]).length : Nat) : Int) = (m.length : Int) + 1 := by simp
    have hm : (m.length : Int) < 5864062014805 := by simp at hl; omega
    have e1 : wrap64 (((m ++ [y]).length : Int) - 1) = (m.length : Int) := by rw [w64 (by omega) (by omega)]; omega
    have hrd : rd_T33 (m ++ [y]) (m.length : Int) = y := by simpa using rd_mid m y []
    rw [e1, if_pos (by omega), if_pos (by omega), if_pos (by omega), hrd, end_eq hy]
    simp only [Option.bind_some]
    have hy' := hy
    have hx' := hx
    unfold Ok at hy' hx'
    rw [push_snoc, w64 (n := y.f2 + y.f1) (by omega) (by omega), w64 (n := y.f1 + x.f1) (by omega) (by omega), hx0]
    by_cases h1 : y.f0 + y.f1 = x.f0
    · rw [if_pos h1]
      by_cases h2 : y.f2 + y.f1 = x.f2
      · rw [if_pos h2, if_pos ⟨h1, h2⟩]
        simp
      · rw [if_neg h2, if_pos hl, if_neg (fun hh => h2 hh.2)]
        simp
    · rw [if_neg h1, if_pos hl, if_neg (fun hh => h1 hh.1)]
      simp
theorem push_len (l : List S33) (x : S33) : (push l x).length ≤ l.length + 1 := by
  rcases last_cases l with rfl | ⟨m, y, rfl⟩
  · simp
  · rw [push_snoc]
    split <;> simp
theorem foldl_push_len : ∀ (l acc : List S33), (l.foldl push acc).length ≤ acc.length + l.length
  | [], acc => by simp
  | x :: l, acc => by
    have h1 := foldl_push_len l (push acc x)
    have h2 := push_len acc x
    simp only [List.foldl_cons, List.length_cons]
    omega
theorem joinL_len (l : List S33) : (joinL l).length ≤ l.length := by simpa [joinL] using foldl_push_len l []

theorem join_loop : ∀ (rest pre acc : List S33) (k : Nat) (b : Int), rest.length < k → (pre ++ rest).length ≤ 1000000000 → acc.length + rest.length ≤ 1000000000 → Val b acc → Val b rest → (∀ y, acc.getLast? = some y → Val (y.f0 + y.f1) rest) →
    extent_Join.l0 k acc (pre ++ rest) ((pre ++ rest).length : Int) (pre.length : Int) = some (rest.foldl push acc, 0)
  | [], pre, acc, k, b, hk, _, _, _, _, _ => by
    obtain ⟨k, rfl⟩ : ∃ m, k = m + 1 := ⟨k - 1, by simp at hk; omega⟩
    simp only [extent_Join.l0]
    rw [if_neg (by simp)]
    rfl
  | x :: rest, pre, acc, k, b, hk, hl, ha, hv, hr, he => by
    obtain ⟨k, rfl⟩ : ∃ m, k = m + 1 := ⟨k - 1, by omega⟩
    simp only [extent_Join.l0]
    have hx : Ok x := hr.1
    rw [if_pos (len_mid pre x rest), if_pos (by omega), if_pos (len_mid pre x rest), rd_mid, push_eq (by simp at ha; omega) hv hx]
    simp only [Option.bind_some]
    have hp := push_val (x := x) hv hr.2.1 hx (fun y hy => (he y hy).2.1)
    have hx' := hx
    unfold Ok at hx'
    have ih := join_loop rest (pre ++ [x]) (push acc x) k b (by simp at hk; omega) (by simpa using hl) (by have := push_len acc x; simp at ha; omega) hp.1 (Val.mono (by have := hr.2.1; omega) hr.2.2) (fun z hz => by
      obtain ⟨y, hy, hye⟩ := hp.2
      rw [hy] at hz
      cases hz
      rw [hye]; exact hr.2.2)
    rw [List.append_assoc, List.singleton_append] at ih
    rw [next_mid pre x rest (by simp at hl ⊢; omega), ih]
    rfl
theorem join_eq (l : List S33) (k : Nat) (hk : l.length < k) (hl : l.length ≤ 1000000000) : extent_Join.f k l = some (if valB 0 l = true then (joinL l, 0) else ([], 1)) := by
  unfold extent_Join.f
  rw [valid_eq l k hk (by omega)]
  simp only [Option.bind_some]
  split
  · rename_i h
    have hv := valB_iff.1 h
    exact join_loop l [] [] k 0 hk (by simpa using hl) (by simpa using hl) trivial hv (by simp)
  · rfl

/-! The reference. -/
theorem one_eq (a n s : Int) : tegularef32_One.f a n s = some (okB3 a n s) := by
  unfold tegularef32_One.f okB3
  by_cases h1 : a ≥ 0
  · rw [if_pos h1]
    by_cases h2 : s ≥ 0
    · rw [if_pos h2]
      by_cases h3 : n ≥ 1
      · rw [if_pos h3]
        by_cases h4 : a ≤ 65536
        · rw [if_pos h4]
          by_cases h5 : s ≤ 65536
          · rw [if_pos h5]
            by_cases h6 : n ≤ 65536
            · rw [if_pos h6, w64 (n := a + n) (by omega) (by omega), w64 (n := s + n) (by omega) (by omega)]
              by_cases h7 : a + n ≤ 65536
              · rw [if_pos h7]
                exact congrArg some (decide_eq_decide.2 (by omega))
              · rw [if_neg h7]
                exact congrArg some (decide_eq_false (by omega)).symm
            · rw [if_neg h6]
              exact congrArg some (decide_eq_false (by omega)).symm
          · rw [if_neg h5]
            exact congrArg some (decide_eq_false (by omega)).symm
        · rw [if_neg h4]
          exact congrArg some (decide_eq_false (by omega)).symm
      · rw [if_neg h3]
        exact congrArg some (decide_eq_false (by omega)).symm
    · rw [if_neg h2]
      exact congrArg some (decide_eq_false (by omega)).symm
  · rw [if_neg h1]
    exact congrArg some (decide_eq_false (by omega)).symm
theorem rvalid_loop : ∀ (rest pre : List S33) (k : Nat), rest.length < k → (pre ++ rest).length ≤ 9223372036854775807 → (∀ y, pre.getLast? = some y → Ok y) →
    tegularef32_Valid.l0 k (pre ++ rest) (pre.length : Int) = some (valB (if pre = [] then rest.head?.elim 0 S33.f0 else endOf pre) rest)
  | [], pre, k, hk, _, _ => by
    obtain ⟨k, rfl⟩ : ∃ m, k = m + 1 := ⟨k - 1, by simp at hk; omega⟩
    simp only [tegularef32_Valid.l0]
    rw [if_neg (by simp)]
    rfl
  | x :: rest, pre, k, hk, hl, ho => by
    obtain ⟨k, rfl⟩ : ∃ m, k = m + 1 := ⟨k - 1, by omega⟩
    simp only [tegularef32_Valid.l0]
    rw [if_pos (len_mid pre x rest), if_pos (by omega), rd_mid, one_eq]
    simp only [Option.bind_some]
    have hn := next_mid pre x rest hl
    have hx : okB3 x.f0 x.f1 x.f2 = okB x := rfl
    rw [hx]
    by_cases hok : okB x = true
    · rw [if_pos hok]
      have hok' := okB_iff.1 hok
      have ih := rvalid_loop rest (pre ++ [x]) k (by simp at hk; omega) (by simpa using hl) (fun y hy => by simp at hy; subst hy; exact hok')
      rw [List.append_assoc, List.singleton_append] at ih
      rw [if_neg (show ¬(pre ++ [x] = []) by simp), endOf_snoc] at ih
      rcases last_cases pre with rfl | ⟨m, y, rfl⟩
      · rw [if_neg (by simp), hn, ih]
        simp [valB, hok]
      · have hy := ho y (by simp)
        have hy' := hy
        unfold Ok at hy'
        have hle : (((m ++ [y]).length : Nat) : Int) = (m.length : Int) + 1 := by simp
        have hl2 : (m.length : Int) + 1 ≤ 9223372036854775807 := by simp at hl; omega
        have e1 : wrap64 (((m ++ [y]).length : Int) - 1) = ((m ++ [y]).length : Int) - 1 := by rw [w64 (by omega) (by omega)]
        rw [if_pos (by rw [hle]; omega), e1, if_pos (by rw [hle]; omega), if_pos (by have := len_mid (m ++ [y]) x rest; omega), rd_last m y (x :: rest) rfl, w64 (n := y.f0 + y.f1) (by omega) (by omega), hn, ih]
        rw [if_neg (show ¬(m ++ [y] = []) by simp), endOf_snoc]
        by_cases hlt : x.f0 < y.f0 + y.f1
        · rw [if_pos hlt]
          simp only [valB]
          rw [decide_eq_false (show ¬ (y.f0 + y.f1 ≤ x.f0) by omega)]
          simp
        · rw [if_neg hlt]
          simp only [valB]
          rw [hok, decide_eq_true (show y.f0 + y.f1 ≤ x.f0 by omega)]
          simp
    · rw [if_neg hok]
      simp only [valB]
      simp only [Bool.not_eq_true] at hok
      rw [hok]
      simp
theorem rvalid_eq (l : List S33) (k : Nat) (hk : l.length < k) (hl : l.length ≤ 9223372036854775807) : tegularef32_Valid.f k l = some (valB 0 l) := by
  unfold tegularef32_Valid.f
  have := rvalid_loop l [] k hk (by simpa using hl) (by simp)
  simp only [List.nil_append, List.length_nil, if_true] at this
  rw [valB_head] at this
  exact this

theorem s33_ext {x y : S33} : x = y ↔ x.f0 = y.f0 ∧ x.f1 = y.f1 ∧ x.f2 = y.f2 := by
  cases x; cases y; simp
instance : DecidableEq S33 := fun _ _ => decidable_of_iff _ s33_ext.symm
theorem same_loop : ∀ (r s pre qre : List S33) (k : Nat), pre.length = qre.length → r.length = s.length → r.length < k → (pre ++ r).length ≤ 9223372036854775807 →
    tegularef32_Same.l0 k (pre ++ r) (qre ++ s) (pre.length : Int) = some (decide (r = s))
  | [], [], pre, qre, k, _, _, hk, _ => by
    obtain ⟨k, rfl⟩ : ∃ m, k = m + 1 := ⟨k - 1, by simp at hk; omega⟩
    simp only [tegularef32_Same.l0]
    rw [if_neg (by simp)]
    simp
  | x :: r, y :: s, pre, qre, k, hp, hr, hk, hl => by
    obtain ⟨k, rfl⟩ : ∃ m, k = m + 1 := ⟨k - 1, by omega⟩
    simp only [tegularef32_Same.l0]
    have h1 := len_mid pre x r
    have h2 := len_mid qre y s
    have e1 := rd_mid pre x r
    have e2 := rd_mid qre y s
    rw [← hp] at e2 h2
    rw [if_pos h1, if_pos (by omega), if_pos h2, e1, e2, next_mid pre x r hl]
    have ih := same_loop r s (pre ++ [x]) (qre ++ [y]) k (by simp [hp]) (by simpa using hr) (by simp at hk; omega) (by simpa using hl)
    rw [List.append_assoc, List.singleton_append, List.append_assoc, List.singleton_append] at ih
    rw [ih]
    by_cases hxy : x = y
    · subst hxy
      rw [if_neg (by simp)]
      simp
    · rw [if_pos (by rw [s33_ext] at hxy; simp; omega)]
      rw [decide_eq_false (by simp [hxy])]
  | [], y :: s, _, _, _, _, hr, _, _ => by simp at hr
  | x :: r, [], _, _, _, _, hr, _, _ => by simp at hr
theorem same_eq (a b : List S33) (k : Nat) (hk : a.length < k) (hl : a.length ≤ 9223372036854775807) : tegularef32_Same.f k a b = some (decide (a = b)) := by
  unfold tegularef32_Same.f
  by_cases h : (a.length : Int) = (b.length : Int)
  · rw [if_pos h]
    have := same_loop a b [] [] k rfl (by omega) hk (by simpa using hl)
    simpa using this
  · rw [if_neg h]
    rw [decide_eq_false (fun e => h (by rw [e]))]

end Go.Proofs.Ytcgihjpnemnkeaa.PExtentMaps
