/- What the printed functions over lists of extents answer: Cut and the reference's. -/
import Derived.Test.YtcgihjpnemnkeaaExt2ExtentMaps
namespace Go.Proofs.Ytcgihjpnemnkeaa.PExtentMaps
open Go.RowKit Go.Proofs.YtcgihjpnemnkeaaW.PrintWords

/-- l may be appended to the normal form acc. -/
def J (acc l : List S33) : Prop := Val 0 acc ∧ Val 0 l ∧ ∀ z, acc.getLast? = some z → Val (z.f0 + z.f1) l
theorem J.step {acc l : List S33} {y : S33} (h : J acc (y :: l)) : J (push acc y) l := by
  obtain ⟨h1, h2, h3⟩ := h
  have hp := push_val (x := y) h1 h2.2.1 h2.1 (fun z hz => (h3 z hz).2.1)
  have hy := h2.1
  unfold Ok at hy
  refine ⟨hp.1, Val.mono (by omega) h2.2.2, fun z hz => ?_⟩
  obtain ⟨w, hw, he⟩ := hp.2
  rw [hw] at hz
  cases hz
  rw [he]
  exact h2.2.2
theorem J.push {acc l : List S33} {y : S33} (h : J acc (y :: l)) (hl : acc.length < 5864062014805) : extent_push.f acc y.f0 y.f1 y.f2 = some (push acc y) := push_eq hl h.1 h.2.1.1
theorem J.nil {l : List S33} (h : Val 0 l) : J [] l := ⟨trivial, h, by simp⟩
theorem J.val {acc l : List S33} (h : J acc l) : Val 0 (l.foldl Go.Proofs.Ytcgihjpnemnkeaa.PExtentMaps.push acc) := foldl_push_val h.1 h.2.1 h.2.2

theorem mx_eq (a b : Int) : mx a b = max a b := by unfold mx; omega
theorem mn_eq (a b : Int) : mn a b = min a b := by unfold mn; omega
theorem part_eq {x : S33} {a b : Int} (hx : Ok x) (ha : 0 ≤ a) (ha2 : a ≤ 65536) (hb : 0 ≤ b) (hb2 : b ≤ 65536) :
    extent_part.f x.f0 x.f1 x.f2 a b = some ((partE x a b).f0, (partE x a b).f1, (partE x a b).f2, decide (max x.f0 a < min (x.f0 + x.f1) b)) := by
  unfold extent_part.f
  rw [end_eq hx]
  unfold Ok at hx
  simp only [Option.bind_some, mx_eq, mn_eq]
  rw [w64 (n := min (x.f0 + x.f1) b - max x.f0 a) (by omega) (by omega), w64 (n := x.f2 + max x.f0 a) (by omega) (by omega), w64 (by omega) (by omega)]
  rfl
theorem partL_len (x : S33) (a b : Int) : (partL x a b).length ≤ 1 := by unfold partL; split <;> simp
theorem partsL_len : ∀ (l : List S33) (a b : Int), (partsL l a b).length ≤ l.length
  | [], _, _ => by simp
  | x :: l, a, b => by
    have h1 := partsL_len l a b
    have h2 := partL_len x a b
    simp
    omega

/-- The parts of one extent, pushed. -/
theorem part_step {α : Type} {x : S33} {a b : Int} {acc l : List S33} {K : List S33 → Option α} (hx : Ok x) (ha : 0 ≤ a) (ha2 : a ≤ 65536) (hb : 0 ≤ b) (hb2 : b ≤ 65536) (hl : acc.length < 5864062014805) (hJ : J acc (partL x a b ++ l)) :
    ((extent_part.f x.f0 x.f1 x.f2 a b).bind fun bt => if bt.2.2.2 = true then (extent_push.f acc bt.1 bt.2.1 bt.2.2.1).bind K else K acc) = K ((partL x a b).foldl push acc) ∧ J ((partL x a b).foldl push acc) l := by
  rw [part_eq hx ha ha2 hb hb2]
  simp only [Option.bind_some]
  unfold partL at hJ ⊢
  by_cases h : max x.f0 a < min (x.f0 + x.f1) b
  · rw [if_pos h] at hJ
    rw [if_pos h, if_pos (by simpa using h), J.push hJ hl]
    exact ⟨rfl, J.step hJ⟩
  · rw [if_neg h] at hJ
    rw [if_neg h, if_neg (by simpa using h)]
    exact ⟨rfl, hJ⟩

theorem cut_loop {a n : Int} (ha : 0 ≤ a) (hn : 0 ≤ n) (han : a + n ≤ 65536) : ∀ (rest pre R M : List S33) (k : Nat), 3 * rest.length < k → (pre ++ rest).length ≤ 1000000000 → R.length + 2 * rest.length ≤ 3000000000 → M.length + rest.length ≤ 3000000000 →
    (∀ x ∈ rest, Ok x) → J R (restL rest a (a + n)) → J M (partsL rest a (a + n)) →
    extent_Cut.l0 k a n R M (pre ++ rest) ((pre ++ rest).length : Int) (pre.length : Int) = some ((restL rest a (a + n)).foldl push R, (partsL rest a (a + n)).foldl push M, 0)
  | [], pre, R, M, k, hk, _, _, _, _, _, _ => by
    obtain ⟨k, rfl⟩ : ∃ m, k = m + 1 := ⟨k - 1, by simp at hk; omega⟩
    simp only [extent_Cut.l0]
    rw [if_neg (by simp)]
    rfl
  | x :: rest, pre, R, M, k, hk, hl, hR, hM, ho, hJ, hK => by
    obtain ⟨k, rfl⟩ : ∃ m, k = m + 3 := ⟨k - 3, by simp at hk; omega⟩
    have hx := ho x (by simp)
    have hr : restL (x :: rest) a (a + n) = partL x 0 a ++ (partL x (a + n) 65536 ++ restL rest a (a + n)) := by simp [restL]
    rw [hr] at hJ ⊢
    rw [partsL_cons] at hK ⊢
    simp only [List.length_cons] at hR hM hk
    have s1 := part_step (K := fun R' => extent_Cut.j2 (k + 2) a n R' M (pre ++ x :: rest) ((pre ++ x :: rest).length : Int) (pre.length : Int) x.f0 x.f1 x.f2) hx (by omega) (by omega) ha (by omega) (by omega) hJ
    have l1 : ((partL x 0 a).foldl push R).length ≤ R.length + 1 := by have := foldl_push_len (partL x 0 a) R; have := partL_len x 0 a; omega
    have s2 := part_step (K := fun M' => extent_Cut.j3 (k + 1) a n ((partL x 0 a).foldl push R) M' (pre ++ x :: rest) ((pre ++ x :: rest).length : Int) (pre.length : Int) x.f0 x.f1 x.f2) hx ha (by omega) (by omega) han (by omega) hK
    have l2 : ((partL x a (a + n)).foldl push M).length ≤ M.length + 1 := by have := foldl_push_len (partL x a (a + n)) M; have := partL_len x a (a + n); omega
    have s3 := part_step (K := fun R' => extent_Cut.l0 k a n R' ((partL x a (a + n)).foldl push M) (pre ++ x :: rest) ((pre ++ x :: rest).length : Int) (wrap64 ((pre.length : Int) + 1))) hx (by omega) han (by omega) (by omega) (by omega) s1.2
    have l3 : ((partL x (a + n) 65536).foldl push ((partL x 0 a).foldl push R)).length ≤ R.length + 2 := by have := foldl_push_len (partL x (a + n) 65536) ((partL x 0 a).foldl push R); have := partL_len x (a + n) 65536; omega
    have ih := cut_loop ha hn han rest (pre ++ [x]) ((partL x (a + n) 65536).foldl push ((partL x 0 a).foldl push R)) ((partL x a (a + n)).foldl push M) k (by omega) (by simpa using hl) (by omega) (by omega) (fun y hy => ho y (by simp [hy])) s3.2 s2.2
    rw [List.append_assoc, List.singleton_append] at ih
    have hw : wrap64 (a + n) = a + n := w64 (by omega) (by omega)
    simp only [extent_Cut.l0]
    rw [if_pos (len_mid pre x rest), if_pos (by omega), if_pos (len_mid pre x rest), rd_mid]
    refine s1.1.trans ?_
    simp only [extent_Cut.j2]
    rw [hw]
    refine s2.1.trans ?_
    simp only [extent_Cut.j3]
    rw [hw]
    refine s3.1.trans ?_
    rw [next_mid pre x rest (by simp at hl ⊢; omega), ih]
    simp only [List.foldl_append]

/-- Whether a range is valid. -/
def rangeB (a n : Int) : Bool := decide (0 ≤ a ∧ 0 ≤ n ∧ a + n ≤ 65536)
theorem rangeB_iff {a n : Int} : rangeB a n = true ↔ 0 ≤ a ∧ 0 ≤ n ∧ a + n ≤ 65536 := by unfold rangeB; exact decide_eq_true_iff
def cutL (l : List S33) (a n : Int) : List S33 × List S33 × Int :=
  if valB 0 l = true ∧ rangeB a n = true then (joinL (restL l a (a + n)), joinL (partsL l a (a + n)), 0) else ([], [], 1)

theorem cut_eq (l : List S33) (a n : Int) (k : Nat) (hk : 3 * l.length + 2 < k) (hl : l.length ≤ 1000000000) : extent_Cut.f k l a n = some (cutL l a n) := by
  unfold extent_Cut.f cutL
  rw [valid_eq l k (by omega) (by omega)]
  simp only [Option.bind_some]
  obtain ⟨k, rfl⟩ : ∃ m, k = m + 1 := ⟨k - 1, by omega⟩
  by_cases hv : valB 0 l = true
  · rw [if_pos hv, within_eq _ _ _ (by omega) (by omega)]
    simp only [Option.bind_some]
    show extent_Cut.j0 (k + 1) l a n (!rangeB a n) = _
    by_cases hr : rangeB a n = true
    · rw [if_pos ⟨hv, hr⟩, hr]
      simp only [extent_Cut.j0]
      obtain ⟨h1, h2, h3⟩ := rangeB_iff.1 hr
      have hV := valB_iff.1 hv
      have hp := rest_val (a := a) (b := a + n) hV (by omega) (by omega)
      rw [← restL_parts hV (by omega)] at hp
      rw [if_neg (by simp)]
      have := cut_loop h1 h2 h3 l [] [] [] k (by omega) (by simpa using hl) (by simp; omega) (by simp; omega) (fun x hx => (Val.ok hV x hx).1) (J.nil hp) (J.nil (partsL_val hV))
      simpa [joinL] using this
    · rw [if_neg (fun h => hr h.2)]
      simp only [Bool.not_eq_true] at hr
      rw [hr]
      simp only [extent_Cut.j0]
      rfl
  · rw [if_neg hv, if_neg (fun h => hv h.1)]
    simp only [extent_Cut.j0]
    rfl

theorem restL_len (l : List S33) (a b : Int) : (restL l a b).length ≤ 2 * l.length := by
  induction l with
  | nil => simp [restL]
  | cons x l ih =>
    have : restL (x :: l) a b = partL x 0 a ++ partL x b 65536 ++ restL l a b := by simp [restL]
    rw [this]
    have h1 := partL_len x 0 a
    have h2 := partL_len x b 65536
    simp only [List.length_append, List.length_cons]
    omega
theorem cutL_len (l : List S33) (a n : Int) : (cutL l a n).1.length ≤ 2 * l.length ∧ (cutL l a n).2.1.length ≤ l.length := by
  unfold cutL
  split
  · have h1 := joinL_len (restL l a (a + n))
    have h2 := joinL_len (partsL l a (a + n))
    have h3 := restL_len l a (a + n)
    have h4 := partsL_len l a (a + n)
    simp only
    omega
  · simp

/-- The example of the document. -/
theorem awake_eq (k : Nat) (hk : 20 < k) : tegulalaw32_awake.f k = some true := by
  unfold tegulalaw32_awake.f
  simp only [Option.bind_some]
  rw [join_eq _ k (by simp; omega) (by simp), cut_eq _ _ _ k (by simp; omega) (by simp)]
  have e1 : joinL [(⟨0, 4, 10⟩ : S33), ⟨4, 2, 14⟩] = [⟨0, 6, 10⟩] := by decide
  have e2 : valB 0 [(⟨0, 4, 10⟩ : S33), ⟨4, 2, 14⟩] = true := by decide
  have e3 : cutL [(⟨0, 4, 10⟩ : S33), ⟨4, 2, 14⟩] 2 2 = ([⟨0, 2, 10⟩, ⟨4, 2, 14⟩], [⟨2, 2, 12⟩], 0) := by decide
  rw [e1, e2, e3]
  simp only [Option.bind_some, if_true]
  rw [same_eq _ _ k (by simp; omega) (by simp), same_eq _ _ k (by simp; omega) (by simp), same_eq _ _ k (by simp; omega) (by simp), valid_eq _ k (by simp; omega) (by simp), e2]
  simp
end Go.Proofs.Ytcgihjpnemnkeaa.PExtentMaps
